/- The reference's Pivoted. -/
import Derived.Test.YtamjmcdlddocgaaSpC
import Derived.Test.YtamjmcdlddocgaaRatV
import Derived.Test.YtamjmcdlddocgaaRegionW
namespace Go.Proofs.Ytamjmcdlddocgaa
open Go.ChangeShapes Go.WideShapes Go.RowKit
set_option linter.unusedVariables false
set_option linter.unusedSimpArgs false

/-- A place for a wide fraction; fresh, as long as t says. -/
def PFr (t : Bool) (g : Nat) (v : Value) (w : World) : Prop := ∃ b, v = .pointer (some ⟨b, 0, none⟩) ∧ g ≤ b ∧ b < w.heap.size ∧ (t = false → Fresh w b)
theorem PFr.keepM {S : Nat → Bool} {d e g : Nat} {v : Value} {w w' : World} (h : PFr (S d) g v w) (k : Keep NoS w w') : PFr (mark S e d) g v w' := by
  obtain ⟨b, e1, h1, h2, h3⟩ := h
  exact ⟨b, e1, h1, Nat.lt_of_lt_of_le h2 k.size, fun hm => (h3 (markS_false hm)).keep k⟩
theorem PFr.offM {S : Nat → Bool} {d e g bz : Nat} {v : Value} {w w' : World} (h : PFr (S d) g v w) (hne : v ≠ .pointer (some ⟨bz, 0, none⟩)) (k : Keep (AtR bz 0) w w') : PFr (mark S e d) g v w' := by
  obtain ⟨b, e1, h1, h2, h3⟩ := h
  refine ⟨b, e1, h1, Nat.lt_of_lt_of_le h2 k.size, fun hm => (h3 (markS_false hm)).off (fun h => hne ?_) k⟩
  rw [e1, h]
theorem PFr.used {b t : Bool} {g bz : Nat} {v : Value} {w w' : World} (h : PFr b g v w) (ht : t = true) (k : Keep (AtR bz 0) w w') : PFr t g v w' := by
  obtain ⟨b, e1, h1, h2, h3⟩ := h
  exact ⟨b, e1, h1, Nat.lt_of_lt_of_le h2 k.size, fun hm => by rw [ht] at hm; cases hm⟩
theorem rel_new0 {S : Nat → Bool} {σ : Nat → Value} {n : Nat} (h : S 9 = true → ∃ b, σ 9 = .pointer (some ⟨b, 0, none⟩) ∧ b < n) : mark S 0 0 = true → mark S 0 9 = true → upd σ 0 (.pointer (some ⟨n, 0, none⟩)) 0 ≠ upd σ 0 (.pointer (some ⟨n, 0, none⟩)) 9 := by
  intro _ h9 e
  rw [markS_other (by omega)] at h9
  obtain ⟨b, e1, hb⟩ := h h9
  simp only [upd, if_true] at e
  rw [if_neg (by omega), e1] at e
  cases e
  omega
theorem rel_new9 {S : Nat → Bool} {σ : Nat → Value} {n : Nat} (h : S 0 = true → ∃ b, σ 0 = .pointer (some ⟨b, 0, none⟩) ∧ b < n) : mark S 9 0 = true → mark S 9 9 = true → upd σ 9 (.pointer (some ⟨n, 0, none⟩)) 0 ≠ upd σ 9 (.pointer (some ⟨n, 0, none⟩)) 9 := by
  intro h0 _ e
  rw [markS_other (by omega)] at h0
  obtain ⟨b, e1, hb⟩ := h h0
  simp only [upd, if_true] at e
  rw [if_neg (by omega), e1] at e
  cases e
  omega
theorem rel_other {S : Nat → Bool} {σ : Nat → Value} {e : Nat} {v : Value} (h0 : 0 ≠ e) (h9 : 9 ≠ e) (h : S 0 = true → S 9 = true → σ 0 ≠ σ 9) : mark S e 0 = true → mark S e 9 = true → upd σ e v 0 ≠ upd σ e v 9 := by
  intro a b
  rw [markS_other h0] at a
  rw [markS_other h9] at b
  unfold upd
  rw [if_neg h0, if_neg h9]
  exact h a b

def pst25 (g : Nat) (st sr : Value) (ri ki ci : Int) (pr pk pc : Value) (fk fc : Value) (qk qc : Rat) (S : Nat → Bool) : Nat → Value → World → Prop
  | 0, v, w => S 17 = false → PFresh g v w
  | 1, v, _ => v = st
  | 2, v, _ => v = .int .i64 ri
  | 3, v, _ => v = pr
  | 4, v, _ => v = sr
  | 5, v, _ => v = .int .i64 ki
  | 6, v, _ => v = pk
  | 7, v, _ => v = fk
  | 8, v, w => PRat g qk v w
  | 9, v, _ => v = st
  | 10, v, _ => v = .int .i64 ri
  | 11, v, _ => v = pr
  | 12, v, _ => v = sr
  | 13, v, _ => v = .int .i64 ci
  | 14, v, _ => v = pc
  | 15, v, _ => v = fc
  | 16, v, w => PRat g qc v w
  | 17, v, w => PRat g (qk / qc) v w
  | 18, v, w => PRat g (qk / qc) v w
  | _, _, _ => True
theorem pst25_keep {g : Nat} {st sr : Value} {ri ki ci : Int} {pr pk pc : Value} {fk fc : Value} {qk qc : Rat} {S : Nat → Bool} {w w' : World} {e : Nat} (he : True) (k : Keep NoS w w') : ∀ (d : Nat) (v : Value), pst25 g st sr ri ki ci pr pk pc fk fc qk qc S d v w → pst25 g st sr ri ki ci pr pk pc fk fc qk qc (mark S e) d v w'
  | 0, v, h => fun hm => PFresh.keep (h (markS_false hm)) k
  | 1, v, h => h
  | 2, v, h => h
  | 3, v, h => h
  | 4, v, h => h
  | 5, v, h => h
  | 6, v, h => h
  | 7, v, h => h
  | 8, v, h => h.keep k
  | 9, v, h => h
  | 10, v, h => h
  | 11, v, h => h
  | 12, v, h => h
  | 13, v, h => h
  | 14, v, h => h
  | 15, v, h => h
  | 16, v, h => h.keep k
  | 17, v, h => h.keep k
  | 18, v, h => h.keep k
  | n + 19, v, h => trivial

def pst27 (g : Nat) (st si : Value) (ii ki ci : Int) (pi pk pc : Value) (fx fe : Value) (pq : Value) (qx qe qy : Rat) (S : Nat → Bool) : Nat → Value → World → Prop
  | 0, v, w => PFr (S 20) g v w
  | 1, v, _ => v = st
  | 2, v, _ => v = .int .i64 ii
  | 3, v, _ => v = pi
  | 4, v, _ => v = si
  | 5, v, _ => v = .int .i64 ki
  | 6, v, _ => v = pk
  | 7, v, _ => v = fx
  | 8, v, w => PRat g qx v w
  | 9, v, w => PFr (S 19) g v w
  | 10, v, _ => v = st
  | 11, v, _ => v = .int .i64 ii
  | 12, v, _ => v = pi
  | 13, v, _ => v = si
  | 14, v, _ => v = .int .i64 ci
  | 15, v, _ => v = pc
  | 16, v, _ => v = fe
  | 17, v, w => PRat g qe v w
  | 18, v, _ => v = pq
  | 19, v, w => PRat g (qe * qy) v w
  | 20, v, w => PRat g (qx - qe * qy) v w
  | 21, v, w => PRat g (qx - qe * qy) v w
  | _, _, _ => True
theorem pst27_keep {g : Nat} {st si : Value} {ii ki ci : Int} {pi pk pc : Value} {fx fe : Value} {pq : Value} {qx qe qy : Rat} {S : Nat → Bool} {w w' : World} {e : Nat} (he : True) (k : Keep NoS w w') : ∀ (d : Nat) (v : Value), pst27 g st si ii ki ci pi pk pc fx fe pq qx qe qy S d v w → pst27 g st si ii ki ci pi pk pc fx fe pq qx qe qy (mark S e) d v w'
  | 0, v, h => h.keepM k
  | 1, v, h => h
  | 2, v, h => h
  | 3, v, h => h
  | 4, v, h => h
  | 5, v, h => h
  | 6, v, h => h
  | 7, v, h => h
  | 8, v, h => h.keep k
  | 9, v, h => h.keepM k
  | 10, v, h => h
  | 11, v, h => h
  | 12, v, h => h
  | 13, v, h => h
  | 14, v, h => h
  | 15, v, h => h
  | 16, v, h => h
  | 17, v, h => h.keep k
  | 18, v, h => h
  | 19, v, h => h.keep k
  | 20, v, h => h.keep k
  | 21, v, h => h.keep k
  | n + 22, v, h => trivial

theorem pst25_add {g : Nat} {st sr : Value} {ri ki ci : Int} {pr pk pc : Value} {fk fc : Value} {qk qc : Rat} {S : Nat → Bool} {w w' : World} {bz : Nat} (hz : Fresh w bz) (k : Keep (AtR bz 0) w w') : ∀ (d : Nat) (v : Value), d ≠ 17 → pst25 g st sr ri ki ci pr pk pc fk fc qk qc S d v w → pst25 g st sr ri ki ci pr pk pc fk fc qk qc (mark S 17) d v w'
  | 0, v, hd, h => fun hm => by rw [markS_self] at hm; cases hm
  | 1, v, hd, h => h
  | 2, v, hd, h => h
  | 3, v, hd, h => h
  | 4, v, hd, h => h
  | 5, v, hd, h => h
  | 6, v, hd, h => h
  | 7, v, hd, h => h
  | 8, v, hd, h => h.off hz k
  | 9, v, hd, h => h
  | 10, v, hd, h => h
  | 11, v, hd, h => h
  | 12, v, hd, h => h
  | 13, v, hd, h => h
  | 14, v, hd, h => h
  | 15, v, hd, h => h
  | 16, v, hd, h => h.off hz k
  | 17, v, hd, h => absurd rfl hd
  | 18, v, hd, h => h.off hz k
  | n + 19, v, hd, h => trivial

theorem pst27_mul {g : Nat} {st si : Value} {ii ki ci : Int} {pi pk pc : Value} {fx fe : Value} {pq : Value} {qx qe qy : Rat} {S : Nat → Bool} {w w' : World} {bz : Nat} (hz : Fresh w bz) (k : Keep (AtR bz 0) w w') : ∀ (d : Nat) (v : Value), d ≠ 19 → (d = 0 → v ≠ .pointer (some ⟨bz, 0, none⟩)) → pst27 g st si ii ki ci pi pk pc fx fe pq qx qe qy S d v w → pst27 g st si ii ki ci pi pk pc fx fe pq qx qe qy (mark S 19) d v w'
  | 0, v, hd, hn, h => h.offM (hn rfl) k
  | 1, v, hd, hn, h => h
  | 2, v, hd, hn, h => h
  | 3, v, hd, hn, h => h
  | 4, v, hd, hn, h => h
  | 5, v, hd, hn, h => h
  | 6, v, hd, hn, h => h
  | 7, v, hd, hn, h => h
  | 8, v, hd, hn, h => h.off hz k
  | 9, v, hd, hn, h => h.used (markS_self _ _) k
  | 10, v, hd, hn, h => h
  | 11, v, hd, hn, h => h
  | 12, v, hd, hn, h => h
  | 13, v, hd, hn, h => h
  | 14, v, hd, hn, h => h
  | 15, v, hd, hn, h => h
  | 16, v, hd, hn, h => h
  | 17, v, hd, hn, h => h.off hz k
  | 18, v, hd, hn, h => h
  | 19, v, hd, hn, h => absurd rfl hd
  | 20, v, hd, hn, h => h.off hz k
  | 21, v, hd, hn, h => h.off hz k
  | n + 22, v, hd, hn, h => trivial

theorem pst27_sub {g : Nat} {st si : Value} {ii ki ci : Int} {pi pk pc : Value} {fx fe : Value} {pq : Value} {qx qe qy : Rat} {S : Nat → Bool} {w w' : World} {bz : Nat} (hz : Fresh w bz) (k : Keep (AtR bz 0) w w') (h19 : S 19 = true) : ∀ (d : Nat) (v : Value), d ≠ 20 → pst27 g st si ii ki ci pi pk pc fx fe pq qx qe qy S d v w → pst27 g st si ii ki ci pi pk pc fx fe pq qx qe qy (mark S 20) d v w'
  | 0, v, hd, h => h.used (markS_self _ _) k
  | 1, v, hd, h => h
  | 2, v, hd, h => h
  | 3, v, hd, h => h
  | 4, v, hd, h => h
  | 5, v, hd, h => h
  | 6, v, hd, h => h
  | 7, v, hd, h => h
  | 8, v, hd, h => h.off hz k
  | 9, v, hd, h => h.used (by rw [markS_other (by omega)]; exact h19) k
  | 10, v, hd, h => h
  | 11, v, hd, h => h
  | 12, v, hd, h => h
  | 13, v, hd, h => h
  | 14, v, hd, h => h
  | 15, v, hd, h => h
  | 16, v, hd, h => h
  | 17, v, hd, h => h.off hz k
  | 18, v, hd, h => h
  | 19, v, hd, h => h.off hz k
  | 20, v, hd, h => absurd rfl hd
  | 21, v, hd, h => h.off hz k
  | n + 22, v, hd, h => trivial

set_option maxRecDepth 100000 in
set_option maxHeartbeats 32000000 in
theorem refPivoted_any (w : World) (v : Value) (t : List (List Fq)) (r c : Int) (h : IsTab w v t) (hr : I64 r) (hc : I64 c) :
    Calls Try.prog 9 #[v, .int .i64 r, .int .i64 c] w fun e w' => ∃ u, e = .returned (.tuple #[u, fV (pivF t r c)]) ∧ IsTab w' u (pivR t r c) ∧ Keep NoS w w' := by
  have FLT := fun w c a => Lib.hid (fault_any c a w)
  unfold fV at FLT
  have HT := Lib.hid h
  obtain ⟨oa, ca, rfl, _, hma⟩ := h.len
  unfold maxLen at hma
  clear h
  unfold I64 at hr hc
  have HBAD : Hid (∀ a b : Int, tabF t = (a, b) → a ≠ 0 → pivF t r c = (a, b) ∧ pivR t r c = []) := Lib.hid (fun a b he ha => by
    have hf : ¬ (tabF t).1 = 0 := by rw [he]; exact ha
    unfold pivF pivR
    rw [if_neg hf, if_neg hf]
    exact ⟨he, rfl⟩)
  have HGOOD : Hid ((tabF t).1 = 0 → (pivF t r c = if inTab t r c then (if tqN t r c = 0 then (6, 0) else (pvC t r.toNat c.toNat (headLen t), 0)) else (3, -1)) ∧ (pivR t r c = if inTab t r c then (if tqN t r c = 0 then [] else pvT t r.toNat c.toNat (headLen t)) else [])) := Lib.hid (fun hf => by
    unfold pivF pivR
    rw [if_pos hf, if_pos hf]
    exact ⟨rfl, rfl⟩)
  generalize pivF t r c = pf at *
  generalize pivR t r c = pr at *
  by_cases h40 : 40 < t.length
  case pos =>
    have HEQ := Lib.hid (HBAD.out 2 0 (by unfold tabF; rw [if_pos (.inl h40)]) (by decide))
    have e1 : (40 : Int) < (t.length : Int) := by omega
    clear h40
    go_enter Try.func9, Try.ntmps9
    go_upto_region 1 with fail
    have HB7 : Hid (Blk (w.alloc (.cells #[.int .i64 0, .int .i64 0] 24)) w.heap.size #[.int .i64 0, .int .i64 0]) := Lib.hid (blk_at _ _ rfl)
    have K0 : Hid (Keep NoS w (w.alloc (.cells #[.int .i64 0, .int .i64 0] 24))) := Lib.hid (by (repeat' (first | (with_reducible assumption) | (with_reducible exact HK.out) | (with_reducible exact Keep.refl _ _) | (with_reducible refine Keep.alloc ?_ _) | (with_reducible refine Keep.setCell ?_ _ (fun h => absurd h (by omega))) | (with_reducible refine Keep.drewN ?_ _) | (with_reducible refine Keep.drew ?_))))
    generalize w.alloc (.cells #[.int .i64 0, .int .i64 0] 24) = w0 at *
    generalize hb7 : w.heap.size = b7 at HB7 ⊢
    have HS7 : Hid (w.heap.size ≤ b7) := Lib.hid (by omega)
    clear hb7
    go_wp2_with fail
    refine (FLT _ 2 0).out.mono ?_
    rintro e w9 ⟨rfl, hk9⟩
    have HB9 := Lib.hid (HB7.out.keep hk9)
    have K9 := Lib.hid (K0.out.both hk9)
    obtain ⟨z0, z1, y0, y1, zl⟩ := HB9.out.two
    clear hk9
    go_simp
    repeat go_step
    refine bodyPost_ret (by simp [results, Try.results9, go_sem, z0, z1, zl]; rfl) rfl ?_
    exact ⟨_, by rw [HEQ.out.1]; rfl, by rw [HEQ.out.2]; exact nil_tab _, keep_set2 K9.out HS7.out _ _⟩
  case neg =>
    have e1 : ¬ (40 : Int) < (t.length : Int) := by omega
    by_cases h0 : 0 < t.length
    case neg =>
      obtain rfl : t = [] := List.eq_nil_of_length_eq_zero (by omega)
      have hG := HGOOD.out rfl
      have hnin : ¬ inTab ([] : List (List Fq)) r c := by unfold inTab; rintro ⟨_, h, _⟩; simp at h; omega
      rw [if_neg hnin, if_neg hnin] at hG
      have HEQ := Lib.hid hG
      clear hnin hG HGOOD HBAD e1 h40 h0 HT
      go_enter Try.func9, Try.ntmps9
      go_upto_region 1 with fail
      have HB7 : Hid (Blk (w.alloc (.cells #[.int .i64 0, .int .i64 0] 24)) w.heap.size #[.int .i64 0, .int .i64 0]) := Lib.hid (blk_at _ _ rfl)
      have K0 : Hid (Keep NoS w (w.alloc (.cells #[.int .i64 0, .int .i64 0] 24))) := Lib.hid (by (repeat' (first | (with_reducible assumption) | (with_reducible exact HK.out) | (with_reducible exact Keep.refl _ _) | (with_reducible refine Keep.alloc ?_ _) | (with_reducible refine Keep.setCell ?_ _ (fun h => absurd h (by omega))) | (with_reducible refine Keep.drewN ?_ _) | (with_reducible refine Keep.drew ?_))))
      generalize w.alloc (.cells #[.int .i64 0, .int .i64 0] 24) = w0 at *
      generalize hb7 : w.heap.size = b7 at HB7 ⊢
      have HS7 : Hid (w.heap.size ≤ b7) := Lib.hid (by omega)
      clear hb7
      go_wp2_with fail
      go_loopw [8] (fun s wr => s = .int .i64 0 ∧ Keep NoS w wr ∧ Blk wr b7 #[.int .i64 0, .int .i64 0]) (fun _ _ => 0)
      case atStart => exact ⟨rfl, K0.out, HB7.out⟩
      case round =>
        obtain ⟨rfl, hkr, hb7⟩ := hrel
        have HKR := Lib.hid hkr
        have HB7 := Lib.hid hb7
        clear hkr hb7 K0
        by_cases r0 : r < 0
        case pos =>
          go_wp2_with fail
          refine (FLT _ 3 (-1)).out.mono ?_
          rintro e w9 ⟨rfl, hk9⟩
          have HB9 := Lib.hid (HB7.out.keep hk9)
          have K9 := Lib.hid (HKR.out.both hk9)
          obtain ⟨z0, z1, y0, y1, zl⟩ := HB9.out.two
          clear hk9
          go_simp
          repeat go_step
          refine bodyPost_ret (by simp [results, Try.results9, go_sem, z0, z1, zl]; rfl) rfl ?_
          exact ⟨_, by rw [HEQ.out.1]; rfl, by rw [HEQ.out.2]; exact nil_tab _, keep_set2 K9.out HS7.out _ _⟩
        case neg =>
          have r1 : (0 : Int) ≤ r := by omega
          go_wp2_with fail
          refine (FLT _ 3 (-1)).out.mono ?_
          rintro e w9 ⟨rfl, hk9⟩
          have HB9 := Lib.hid (HB7.out.keep hk9)
          have K9 := Lib.hid (HKR.out.both hk9)
          obtain ⟨z0, z1, y0, y1, zl⟩ := HB9.out.two
          clear hk9
          go_simp
          repeat go_step
          refine bodyPost_ret (by simp [results, Try.results9, go_sem, z0, z1, zl]; rfl) rfl ?_
          exact ⟨_, by rw [HEQ.out.1]; rfl, by rw [HEQ.out.2]; exact nil_tab _, keep_set2 K9.out HS7.out _ _⟩
    case pos =>
      have e2 : (0 : Int) < (t.length : Int) := by omega
      obtain ⟨b, o, sv, rfl, hb, hcell, hfr⟩ := HT.out.at h0
      have hcell : w.cell? ⟨b, o, none⟩ = some sv := by simpa using hcell
      have hhl : headLen t = t[0].length := by unfold headLen; rw [List.getD_eq_getElem?_getD, List.getElem?_eq_getElem h0]; rfl
      obtain ⟨oh, ch, rfl, _⟩ := hfr.len
      rw [← hhl] at hcell
      have HCELL := Lib.hid hcell
      have htab : ¬ (40 < t.length ∨ 0 < t.length ∧ 12 < headLen t) → tabF t = firstLine (headLen t) t 0 := fun h => by unfold tabF; rw [if_neg h]
      have htab2 : 12 < headLen t → tabF t = (2, 0) := fun h => by unfold tabF; rw [if_pos (.inr ⟨h0, h⟩)]
      have hin0 : inTab t r c = (0 ≤ r ∧ r < t.length ∧ 0 ≤ c ∧ c < headLen t) := rfl
      have htok : (tabF t).1 = 0 → TabOK t (headLen t) := fun h => (tabF_ok h).2 h0
      clear hfr hhl
      generalize hhm : headLen t = m at *
      clear hhm
      go_enter Try.func9, Try.ntmps9
      go_upto_region 1 with fail
      have hcA : (w.alloc (.cells #[.int .i64 0, .int .i64 0] 24)).cell? ⟨b, o, none⟩ = some (.slice oh m ch) := by rw [(((Keep.refl NoS w).alloc _).cell hb)]; exact hcell
      have hbA : b < (w.alloc (.cells #[.int .i64 0, .int .i64 0] 24)).heap.size := by simp; omega
      have HB7 : Hid (Blk (w.alloc (.cells #[.int .i64 0, .int .i64 0] 24)) w.heap.size #[.int .i64 0, .int .i64 0]) := Lib.hid (blk_at _ _ rfl)
      have K0 : Hid (Keep NoS w (w.alloc (.cells #[.int .i64 0, .int .i64 0] 24))) := Lib.hid (by (repeat' (first | (with_reducible assumption) | (with_reducible exact HK.out) | (with_reducible exact Keep.refl _ _) | (with_reducible refine Keep.alloc ?_ _) | (with_reducible refine Keep.setCell ?_ _ (fun h => absurd h (by omega))) | (with_reducible refine Keep.drewN ?_ _) | (with_reducible refine Keep.drew ?_))))
      generalize w.alloc (.cells #[.int .i64 0, .int .i64 0] 24) = w0 at *
      generalize hb7 : w.heap.size = b7 at HB7 ⊢
      have HS7 : Hid (w.heap.size ≤ b7) := Lib.hid (by omega)
      clear hb7
      clear hcell
      by_cases h12 : 12 < m
      case pos =>
        have e3 : (12 : Int) < (m : Int) := by omega
        have HEQ := Lib.hid (HBAD.out 2 0 (htab2 h12) (by decide))
        clear h12 htab htab2 HGOOD hin0 htok HBAD
        go_wp2_with fail
        refine (FLT _ 2 0).out.mono ?_
        rintro e w9 ⟨rfl, hk9⟩
        have HB9 := Lib.hid (HB7.out.keep hk9)
        have K9 := Lib.hid (K0.out.both hk9)
        obtain ⟨z0, z1, y0, y1, zl⟩ := HB9.out.two
        clear hk9
        go_simp
        repeat go_step
        refine bodyPost_ret (by simp [results, Try.results9, go_sem, z0, z1, zl]; rfl) rfl ?_
        exact ⟨_, by rw [HEQ.out.1]; rfl, by rw [HEQ.out.2]; exact nil_tab _, keep_set2 K9.out HS7.out _ _⟩
      case neg =>
        have e3 : ¬ (12 : Int) < (m : Int) := by omega
        have HTAB := Lib.hid (htab (by omega))
        have HIN0 := Lib.hid hin0
        have HTOK := Lib.hid htok
        clear htab htab2 hin0 htok h40
        go_wp2
        clear hcA hbA
        go_loopw [8] (fun s wr => ∃ k : Nat, k ≤ t.length ∧ s = .int .i64 k ∧ firstLine m t 0 = firstLine m (t.drop k) k ∧ Keep NoS w wr ∧ Blk wr b7 #[.int .i64 0, .int .i64 0]) (fun s _ => (t.length - intOf s).toNat)
        case atStart => exact ⟨0, by omega, rfl, rfl, K0.out, HB7.out⟩
        case round =>
          obtain ⟨k, hk, rfl, hf, hkr, hb2⟩ := hrel
          have HF := Lib.hid hf
          have HKR := Lib.hid hkr
          have HB7 := Lib.hid hb2
          clear hf hkr hb2 K0
          by_cases hkl : k < t.length
          case pos =>
            have hlt : (k : Int) < (t.length : Int) := by omega
            obtain ⟨b', o', sv', hbo, hb', hcell', hfr'⟩ := HT.out.at hkl
            cases hbo
            obtain ⟨ol, cl, rfl, _, hml⟩ := hfr'.len
            have HFR := Lib.hid hfr'
            have hc0 := (HKR.out.cell hb).trans HCELL.out
            have hc1 := (HKR.out.cell hb).trans hcell'
            have hbr := Nat.lt_of_lt_of_le hb HKR.out.size
            have hIN := fun h ho => firstLine_in (m := m) (i := k) hkl h ho
            have hSZ := fun h => firstLine_size (m := m) (i := k) hkl h
            have hFM := fun h ho => firstLine_form (m := m) (i := k) hkl h ho
            generalize t[k] = l at *
            have HC1 := Lib.hid hcell'
            clear hcell' hfr'
            go_upto_region 6 with fail
            refine wp_region_by (fun w' => Keep NoS wr w') [] [] [0, 1, 2, 3, 4, 5, 6, 7, 8, 9] (by kernel_rfl) (by kernel_rfl) (by (repeat' (first | (with_reducible assumption) | (with_reducible exact HK.out) | (with_reducible exact Keep.refl _ _) | (with_reducible refine Keep.alloc ?_ _) | (with_reducible refine Keep.setCell ?_ _ (fun h => absurd h (by omega))) | (with_reducible refine Keep.drewN ?_ _) | (with_reducible refine Keep.drew ?_)))) ?_
            intro X W hne hF hcl
            have x0 := fun x => ((hF x).cell hbr).trans hc0
            have x1 := fun x => ((hF x).cell hbr).trans hc1
            clear hF hcl
            by_cases hm : l.length = m
            case neg =>
              have e5 : ((l.length : Int) != (m : Int)) = true := by rw [bne_iff_ne]; omega
              have HEQ := Lib.hid (HBAD.out 9 k (HTAB.out.trans (HF.out.trans (hSZ hm))) (by decide))
              clear HF hIN hSZ hFM hm HGOOD HTAB HBAD HIN0 HTOK
              simp only [wpPlan, pickOps, List.getElem?_toArray, List.getElem?_cons_zero, List.getElem?_cons_succ, clsOf, Bool.false_eq_true, if_false]
              (repeat (quiet_step (fail))); refine wpQuiet_nil ?_
              refine NoPanic.normal ?_
              have HKR := Lib.hid (HKR.out.drew)
              have HB7 := Lib.hid (HB7.out.keep (Keep.refl NoS wr).drew)
              clear x0 x1 hc0 hc1
              generalize wr.drew = wr at *
              go_wp2_with fail
              refine (FLT _ 9 k).out.mono ?_
              rintro e w9 ⟨rfl, hk9⟩
              have HB9 := Lib.hid (HB7.out.keep hk9)
              have K9 := Lib.hid (HKR.out.both hk9)
              obtain ⟨z0, z1, y0, y1, zl⟩ := HB9.out.two
              clear hk9
              go_simp
              repeat go_step
              refine bodyPost_ret (by simp [results, Try.results9, go_sem, z0, z1, zl]; rfl) rfl ?_
              exact ⟨_, by rw [HEQ.out.1]; rfl, by rw [HEQ.out.2]; exact nil_tab _, keep_set2 K9.out HS7.out _ _⟩
            case pos =>
              have e5 : ((l.length : Int) != (m : Int)) = false := by rw [bne_eq_false_iff_eq]; omega
              have HIN := Lib.hid (hIN hm)
              have HFM := Lib.hid (hFM hm)
              clear hIN hSZ hFM hm
              unfold maxLen at hml
              simp only [wpPlan, pickOps, List.getElem?_toArray, List.getElem?_cons_zero, List.getElem?_cons_succ, clsOf, Bool.false_eq_true, if_false]
              (repeat (quiet_step (fail))); refine wpQuiet_nil ?_
              refine NoPanic.normal ?_
              have HKO := Lib.hid (HKR.out.drew)
              have HBO := Lib.hid (HB7.out.keep (Keep.refl NoS wr).drew)
              clear x0 x1 hc0 hc1 HKR HB7
              generalize wr.drew = wq at *
              clear hbr
              go_wp2
              go_loopw [9] (fun s wr => ∃ j : Nat, j ≤ l.length ∧ s = .int .i64 j ∧ okLine l = (l.drop j).all (fun g => decide (FracOK g.N g.D)) ∧ Keep NoS w wr ∧ Blk wr b7 #[.int .i64 0, .int .i64 0]) (fun s _ => (l.length - intOf s).toNat)
              case atStart => exact ⟨0, by omega, rfl, rfl, HKO.out, HBO.out⟩
              case round =>
                obtain ⟨j, hj, rfl, ho, hkr, hb2⟩ := hrel
                have HOL := Lib.hid ho
                have HKX := Lib.hid hkr
                have HB7 := Lib.hid hb2
                clear ho hkr hb2 HKO HBO
                have hc1 := (HKX.out.cell hb).trans HC1.out
                have hbr := Nat.lt_of_lt_of_le hb HKX.out.size
                by_cases hjl : j < l.length
                case neg =>
                  have hltj : ¬ (j : Int) < (l.length : Int) := by omega
                  have HNX := Lib.hid (HF.out.trans (HIN.out (HOL.out.trans (by rw [List.drop_eq_nil_of_le (by omega)]; rfl))))
                  clear HF HIN HFM HOL
                  go_wp2
                  go_roundw
                  case rel => exact ⟨k + 1, by omega, by go_num, HNX.out, HKX.out, HB7.out⟩
                  case measure => simp [intOf]; omega
                case pos =>
                  have hltj : (j : Int) < (l.length : Int) := by omega
                  obtain ⟨bl, oo, rfl, hbl, p0, p1⟩ := (HFR.out.keep HKX.out).at hjl
                  have HA := Lib.hid (okLine_drop hjl)
                  generalize l[j] = g at *
                  obtain ⟨gn, gd⟩ := g
                  simp only at p0 p1 HA
                  have CC := fun w => Lib.hid (refRight_any gn gd w)
                  by_cases hx : FracOK gn gd
                  · rw [decide_eq_true hx] at CC
                    have HNX := Lib.hid (HOL.out.trans (HA.out.trans (by rw [decide_eq_true hx, Bool.true_and])))
                    clear hx HA HOL
                    go_wp2_with fail
                    refine (CC _).out.mono ?_
                    rintro e w4 ⟨rfl, k4⟩
                    have K4 := Lib.hid (HKX.out.both k4)
                    have HB4 := Lib.hid (HB7.out.keep k4)
                    clear k4 p0 p1 CC hc1 hbr
                    go_wp2
                    go_roundw
                    case rel => exact ⟨j + 1, by omega, by go_num, HNX.out, K4.out, HB4.out⟩
                    case measure => simp [intOf]; omega
                  · rw [decide_eq_false hx] at CC
                    have HEQ := Lib.hid (HBAD.out 5 k (HTAB.out.trans (HF.out.trans (HFM.out (HOL.out.trans (HA.out.trans (by rw [decide_eq_false hx, Bool.false_and])))))) (by decide))
                    clear hx HA HOL HF HIN HFM HBAD HGOOD HTAB HIN0 HTOK
                    go_wp2_with fail
                    refine (CC _).out.mono ?_
                    rintro e w4 ⟨rfl, k4⟩
                    have K4 := Lib.hid (HKX.out.both k4)
                    have HB4 := Lib.hid (HB7.out.keep k4)
                    clear k4 p0 p1 CC hc1 hbr
                    go_wp2_with fail
                    refine (FLT _ 5 k).out.mono ?_
                    rintro e w9 ⟨rfl, hk9⟩
                    have HB9 := Lib.hid (HB4.out.keep hk9)
                    have K9 := Lib.hid (K4.out.both hk9)
                    obtain ⟨z0, z1, y0, y1, zl⟩ := HB9.out.two
                    clear hk9
                    go_simp
                    repeat go_step
                    refine bodyPost_ret (by simp [results, Try.results9, go_sem, z0, z1, zl]; rfl) rfl ?_
                    exact ⟨_, by rw [HEQ.out.1]; rfl, by rw [HEQ.out.2]; exact nil_tab _, keep_set2 K9.out HS7.out _ _⟩
          case neg =>
            have hlt : ¬ (k : Int) < (t.length : Int) := by omega
            have hNX := HTAB.out.trans (HF.out.trans (firstLine_end (i := k) (by omega)))
            have hT0 : (tabF t).1 = 0 := by rw [hNX]
            have HFR := Lib.hid (HGOOD.out hT0)
            have hTOK := HTOK.out hT0
            clear HF hNX hT0 HGOOD HBAD HTOK HTAB
            have K0 := HKR
            generalize wr = w0 at *
            clear HKR
            by_cases hin : inTab t r c
            case neg =>
              have hFR := HFR.out
              rw [if_neg hin, if_neg hin] at hFR
              have HEQ := Lib.hid hFR
              rw [HIN0.out] at hin
              clear HFR hFR HIN0
              by_cases r0 : r < 0
              case pos =>
                go_wp2_with fail
                refine (FLT _ 3 (-1)).out.mono ?_
                rintro e w9 ⟨rfl, hk9⟩
                have HB9 := Lib.hid (HB7.out.keep hk9)
                have K9 := Lib.hid (K0.out.both hk9)
                obtain ⟨z0, z1, y0, y1, zl⟩ := HB9.out.two
                clear hk9
                go_simp
                repeat go_step
                refine bodyPost_ret (by simp [results, Try.results9, go_sem, z0, z1, zl]; rfl) rfl ?_
                exact ⟨_, by rw [HEQ.out.1]; rfl, by rw [HEQ.out.2]; exact nil_tab _, keep_set2 K9.out HS7.out _ _⟩
              case neg =>
                by_cases r1 : r < (t.length : Int)
                case neg =>
                  have r1' : (t.length : Int) ≤ r := by omega
                  go_wp2_with fail
                  refine (FLT _ 3 (-1)).out.mono ?_
                  rintro e w9 ⟨rfl, hk9⟩
                  have HB9 := Lib.hid (HB7.out.keep hk9)
                  have K9 := Lib.hid (K0.out.both hk9)
                  obtain ⟨z0, z1, y0, y1, zl⟩ := HB9.out.two
                  clear hk9
                  go_simp
                  repeat go_step
                  refine bodyPost_ret (by simp [results, Try.results9, go_sem, z0, z1, zl]; rfl) rfl ?_
                  exact ⟨_, by rw [HEQ.out.1]; rfl, by rw [HEQ.out.2]; exact nil_tab _, keep_set2 K9.out HS7.out _ _⟩
                case pos =>
                  by_cases q0 : c < 0
                  case pos =>
                    go_wp2_with fail
                    refine (FLT _ 3 (-1)).out.mono ?_
                    rintro e w9 ⟨rfl, hk9⟩
                    have HB9 := Lib.hid (HB7.out.keep hk9)
                    have K9 := Lib.hid (K0.out.both hk9)
                    obtain ⟨z0, z1, y0, y1, zl⟩ := HB9.out.two
                    clear hk9
                    go_simp
                    repeat go_step
                    refine bodyPost_ret (by simp [results, Try.results9, go_sem, z0, z1, zl]; rfl) rfl ?_
                    exact ⟨_, by rw [HEQ.out.1]; rfl, by rw [HEQ.out.2]; exact nil_tab _, keep_set2 K9.out HS7.out _ _⟩
                  case neg =>
                    have hm0 := (K0.out.cell hb).trans HCELL.out
                    have hbx := Nat.lt_of_lt_of_le hb K0.out.size
                    have q1 : (m : Int) ≤ c := by omega
                    have q1' : ¬ c < (m : Int) := by omega
                    go_wp2_with fail
                    refine (FLT _ 3 (-1)).out.mono ?_
                    rintro e w9 ⟨rfl, hk9⟩
                    have HB9 := Lib.hid (HB7.out.keep hk9)
                    have K9 := Lib.hid (K0.out.both hk9)
                    obtain ⟨z0, z1, y0, y1, zl⟩ := HB9.out.two
                    clear hk9
                    go_simp
                    repeat go_step
                    refine bodyPost_ret (by simp [results, Try.results9, go_sem, z0, z1, zl]; rfl) rfl ?_
                    exact ⟨_, by rw [HEQ.out.1]; rfl, by rw [HEQ.out.2]; exact nil_tab _, keep_set2 K9.out HS7.out _ _⟩
            case pos =>
              have hin' := hin
              rw [HIN0.out] at hin'
              obtain ⟨r0, r1, q0, q1⟩ := hin'
              obtain ⟨rn, rfl⟩ : ∃ rn : Nat, r = (rn : Int) := ⟨r.toNat, by omega⟩
              obtain ⟨cn, rfl⟩ : ∃ cn : Nat, c = (cn : Int) := ⟨c.toNat, by omega⟩
              have hrn : rn < t.length := by omega
              have hcellA := HCELL.out
              have hm0 := (K0.out.cell hb).trans hcellA
              obtain ⟨b', o', sv, hbo, _, hcr, hfr'⟩ := HT.out.at hrn
              cases hbo
              obtain ⟨orr, cr, rfl, _, hmr⟩ := hfr'.len
              unfold maxLen at hmr
              have hlr := hTOK.len _ (List.getElem_mem hrn)
              have hcn : cn < t[rn].length := by rw [hlr]; omega
              obtain ⟨br, o2, rfl, hbr, c0, c1⟩ := hfr'.at hcn
              rw [hlr] at hcr
              have hm1 := (K0.out.cell hb).trans hcr
              have hm2 := (K0.out.cell hbr).trans c0
              have hNN : tqN t rn cn = (t[rn][cn]).N := by
                unfold tqN
                rw [show ((rn : Int)).toNat = rn from by omega, show ((cn : Int)).toNat = cn from by omega]
                have e : t.getD rn [] = t[rn] := by rw [List.getD_eq_getElem?_getD, List.getElem?_eq_getElem hrn]; rfl
                rw [e, List.getD_eq_getElem?_getD, List.getElem?_eq_getElem hcn]; rfl
              have hok := hTOK.ok _ (List.getElem_mem hrn) _ (List.getElem_mem hcn)
              have htq : tq t rn cn = (t[rn][cn]).q := tq_at hrn hcn
              have hFR := HFR.out
              rw [if_pos hin, if_pos hin, hNN] at hFR
              simp only [Int.toNat_natCast] at hFR
              have hm : cn < m := by omega
              have hbx := Nat.lt_of_lt_of_le hb K0.out.size
              have hbrx0 := Nat.lt_of_lt_of_le hbr K0.out.size
              generalize hg : t[rn][cn] = gc at *
              have a2 : ¬ (rn : Int) < 0 := by omega
              have a3 : ¬ (cn : Int) < 0 := by omega
              have a4 : ¬ (t.length : Int) ≤ (rn : Int) := by omega
              have a5 : ¬ (m : Int) ≤ (cn : Int) := by omega
              clear hg hin HFR HIN0 hcn hNN
              by_cases hz : gc.N = 0
              case pos =>
                rw [if_pos hz, if_pos hz] at hFR
                have HEQ := Lib.hid hFR
                rw [hz] at hm2
                clear hz htq hok hTOK hFR hfr' hcr c0 c1 hlr HT
                go_wp2_with fail
                refine (FLT _ 6 0).out.mono ?_
                rintro e w9 ⟨rfl, hk9⟩
                have HB9 := Lib.hid (HB7.out.keep hk9)
                have K9 := Lib.hid (K0.out.both hk9)
                obtain ⟨z0, z1, y0, y1, zl⟩ := HB9.out.two
                clear hk9
                go_simp
                repeat go_step
                refine bodyPost_ret (by simp [results, Try.results9, go_sem, z0, z1, zl]; rfl) rfl ?_
                exact ⟨_, by rw [HEQ.out.1]; rfl, by rw [HEQ.out.2]; exact nil_tab _, keep_set2 K9.out HS7.out _ _⟩
              case neg =>
                rw [if_neg hz, if_neg hz] at hFR
                have a6 : (gc.N == 0) = false := by rw [beq_eq_false_iff_ne]; exact hz
                have h0' : tq t rn cn ≠ 0 := by
                  rw [htq]
                  intro h0
                  exact hz ((fq_zero hok).1 h0)
                have HPV := Lib.hid hFR
                have HZ := Lib.hid hz
                clear hFR hz r0 q0 r1 q1 hr hc hk hkl HCELL
                have hr := hrn
                have hc := hm
                have h0 := h0'
                generalize rn = r at *
                generalize cn = c at *
                have HOK := Lib.hid hTOK
                have h40 := hTOK.h40
                have h12 := hTOK.h12
                have hcl : c < t[r].length := by rw [hlr]; exact hc
                have HFR := Lib.hid hfr'
                have HLR := Lib.hid hlr
                have HCR := Lib.hid hcr
                have HC0 := Lib.hid c0
                have HC1 := Lib.hid c1
                have HGC := Lib.hid hok
                have HTQ := Lib.hid htq
                have H0 := Lib.hid h0
                have NBP : Hid (∀ {i k : Nat}, i < t.length → k < m → NB 10 (pivQ t r c i k)) := Lib.hid (fun hi hk => nb_piv hTOK hr hc hi hk h0)
                clear hTOK hcr hfr' hcl c0 c1 htq h0 hlr hok
                have hrI : (r : Int) < (t.length : Int) := by omega
                have hcI : (c : Int) < (m : Int) := by omega
                go_wp2
                clear hm0 hm1 hm2 hcellA hbx hbrx0
                have HW0 : Hid (w.heap.size ≤ w0.heap.size) := Lib.hid K0.out.size
                have HS70 : Hid (b7 < w0.heap.size) := Lib.hid HB7.out.lt
                go_loopw [10, 11] (fun s8 s19 wr => ∃ i : Nat, i ≤ t.length ∧ s19 = .int .i64 i ∧ (∀ j, j < i → fitL t r c j m = true) ∧ Keep NoS w wr ∧ Blk wr b7 #[.int .i64 0, .int .i64 0] ∧ w0.heap.size ≤ wr.heap.size ∧ OwnTL wr w0.heap.size s8 (pvLs t r c m i) (.slice none 0 0) []) (fun _ s _ => (t.length - intOf s).toNat)
                case atStart => exact ⟨0, by omega, rfl, fun j hj => by omega, K0.out, HB7.out, Nat.le_refl _, OwnTL.nil _ _⟩
                case round =>
                  obtain ⟨i, hi, rfl, hfi, hkr, hb7, hsz, hou⟩ := hrel
                  have HFI := Lib.hid hfi
                  have HKR := Lib.hid hkr
                  have HB7 := Lib.hid hb7
                  have HSR := Lib.hid hsz
                  have HOU := Lib.hid hou
                  obtain ⟨o8, c8, h8, _⟩ := hou.lenT
                  rw [pvLs_len] at h8
                  subst h8
                  clear hfi hkr hb7 hsz hou K0
                  by_cases hil : i < t.length
                  case neg =>
                    have hlt : ¬ (i : Int) < (t.length : Int) := by omega
                    obtain rfl : i = t.length := by omega
                    have hyes := pvOK_yes HFI.out
                    obtain ⟨hC, hT⟩ := HPV.out
                    unfold pvT at hT
                    unfold pvC at hC
                    rw [if_pos hyes] at hT hC
                    obtain ⟨s0, s1, f0, f1, sl⟩ := HB7.out.two
                    have HTC := Lib.hid (And.intro hT hC)
                    clear hyes hT hC HPV
                    go_wp2
                    refine bodyPost_ret (by simp [results, Try.results9, go_sem, s0, s1, sl]; rfl) rfl ?_
                    exact ⟨_, by rw [HTC.out.2]; rfl, by rw [HTC.out.1]; exact (HOU.out.set2 HS70.out).tab pv_i64, keep_set2 HKR.out HS7.out _ _⟩
                  case pos =>
                    have hlt : (i : Int) < (t.length : Int) := by omega
                    obtain ⟨b', o', svi, hbo, hb', hci, hfri⟩ := HT.out.at hil
                    cases hbo
                    obtain ⟨oi, ci, rfl, _, hmi⟩ := hfri.len
                    unfold maxLen at hmi
                    have hli := HOK.out.len _ (List.getElem_mem hil)
                    have HFRI := Lib.hid hfri
                    have HLI := Lib.hid hli
                    rw [hli] at hci
                    have HCI := Lib.hid hci
                    clear hci hfri hli hb'
                    go_wp2
                    have HKO := HKR
                    have HBO := HB7
                    have HSO := HSR
                    have HOO := HOU
                    clear HKR HB7 HSR HOU
                    go_loopw [12, 13] (fun s11 s26 wr => ∃ k : Nat, k ≤ m ∧ s26 = .int .i64 k ∧ fitL t r c i k = true ∧ Keep NoS w wr ∧ Blk wr b7 #[.int .i64 0, .int .i64 0] ∧ w0.heap.size ≤ wr.heap.size ∧ OwnTL wr w0.heap.size (.slice o8 i c8) (pvLs t r c m i) s11 (pvL t r c i k)) (fun _ s _ => (m - intOf s).toNat)
                    case atStart => exact ⟨0, by omega, rfl, rfl, HKO.out, HBO.out, HSO.out, HOO.out⟩
                    case round =>
                      obtain ⟨k, hk, rfl, hfk, hkr, hb7, hsz, hou⟩ := hrel
                      have HFK := Lib.hid hfk
                      have HKR := Lib.hid hkr
                      have HB7 := Lib.hid hb7
                      have HSR := Lib.hid hsz
                      have HOU := Lib.hid hou
                      obtain ⟨o11, c11, h11, _⟩ := hou.lenL
                      rw [pvL_len] at h11
                      subst h11
                      have hc1 := (hkr.cell hb).trans HCI.out
                      have hbx := Nat.lt_of_lt_of_le hb hkr.size
                      clear hfk hkr hb7 hsz hou HKO HBO HSO HOO
                      by_cases hkm : k < m
                      case neg =>
                        have hltk : ¬ (k : Int) < (m : Int) := by omega
                        obtain rfl : k = m := by omega
                        have k9 : Keep NoS wr (wr.alloc (.cells #[.slice o11 k c11] 29)) := (Keep.refl _ _).alloc _
                        obtain ⟨v1, wA, hr1, ho1, hg1⟩ := (HOU.out.keep k9).line (b := wr.heap.size) (by (repeat (first | (refine blk_at _ _ ?_; simp; done) | (refine Blk.old ?_ _)))) (by rw [pvLs_len]; omega) (Nat.le_trans HSR.out k9.size)
                        rw [← pvLs_succ] at ho1
                        have HO1 := Lib.hid ho1
                        obtain ⟨o1', d1', hs1, _⟩ := ho1.lenT
                        rw [pvLs_len] at hs1
                        subst hs1
                        have hblk := fun kk hh => HOU.out.blockT kk hh
                        have K10 := Lib.hid ((HKR.out.both k9).grown hg1 fun kk hh => Nat.le_trans HW0.out (hblk kk hh))
                        have HB10 := Lib.hid ((HB7.out.keep k9).grown hg1 fun kk hh => by have := hblk kk hh; have := HS70.out; omega)
                        have HS10 : Hid (w0.heap.size ≤ wA.heap.size) := Lib.hid (Nat.le_trans HSR.out (Nat.le_trans k9.size hg1.size))
                        have HFI1 : Hid (∀ j, j < i + 1 → fitL t r c j k = true) := Lib.hid (fun j hj => by
                          rcases Nat.lt_or_ge j i with h | h
                          · exact HFI.out j h
                          · obtain rfl : j = i := by omega
                            exact HFK.out)
                        clear k9 ho1 hg1 hblk
                        go_wp2_with (at_builtin; refine wpList_app_run _ _ 22 _ _ rfl rfl rfl rfl hr1 ?_)
                        go_roundw
                        case rel => exact ⟨i + 1, by omega, by go_num, HFI1.out, K10.out, HB10.out, HS10.out, HO1.out⟩
                        case measure => simp [intOf]; omega
                      case pos =>
                        have hltk : (k : Int) < (m : Int) := by omega
                        have hkl : k < t[i].length := by rw [HLI.out]; exact hkm
                        have hcl : c < t[i].length := by rw [HLI.out]; exact hc
                        have hkr' : k < t[r].length := by rw [HLR.out]; exact hkm
                        have hcr' : c < t[r].length := by rw [HLR.out]; exact hc
                        obtain ⟨bi, o3, rfl, hbi, x0, x1⟩ := HFRI.out.at hkl
                        obtain ⟨bi', o3', hoi, _, e0, e1⟩ := HFRI.out.at hcl
                        cases hoi
                        obtain ⟨br', o2', hoo, _, k0, k1⟩ := HFR.out.at hkr'
                        cases hoo
                        have HGX := Lib.hid (HOK.out.ok _ (List.getElem_mem hil) _ (List.getElem_mem hkl))
                        have HGE := Lib.hid (HOK.out.ok _ (List.getElem_mem hil) _ (List.getElem_mem hcl))
                        have HGK := Lib.hid (HOK.out.ok _ (List.getElem_mem hr) _ (List.getElem_mem hkr'))
                        have tx : tq t i k = (t[i][k]).q := tq_at hil hkl
                        have te : tq t i c = (t[i][c]).q := tq_at hil hcl
                        have tk : tq t r k = (t[r][k]).q := tq_at hr hkr'
                        generalize t[i][k] = gx at *
                        generalize t[i][c] = ge at *
                        generalize t[r][k] = gk at *
                        have hP : pivQ t r c i k = if i = r then gk.q / gc.q else gx.q - ge.q * (gk.q / gc.q) := by unfold pivQ; rw [tx, te, tk, HTQ.out, Rat.mul_comm (gk.q / gc.q) ge.q]
                        have hg0 : gc.q ≠ 0 := by rw [← HTQ.out]; exact H0.out
                        have HNBP := Lib.hid (NBP.out hil hkm)
                        have HLS := Lib.hid (pvL_succ t r c i k).symm
                        have HYES : Hid (Fits (pivQ t r c i k) → fitL t r c i (k + 1) = true) := Lib.hid (fun h => by rw [fitL_succ, HFK.out, decide_eq_true h]; rfl)
                        have HNOF : Hid (¬ Fits (pivQ t r c i k) → pf = (10, 0) ∧ pr = []) := Lib.hid (fun h => by
                          have := pvOK_no hil hkm h
                          obtain ⟨h1, h2⟩ := HPV.out
                          unfold pvC at h1
                          unfold pvT at h2
                          rw [this] at h1 h2
                          exact ⟨h1, h2⟩)
                        obtain ⟨p, hp⟩ : ∃ p, pivQ t r c i k = p := ⟨_, rfl⟩
                        rw [hp] at hP HNBP HLS HYES HNOF
                        have ny0 := (nb_frac HGK.out).div (nb_frac HGC.out) hg0
                        have HNK := Lib.hid ((nb_frac HGK.out).mono (k := 2000) (by omega))
                        have HNC := Lib.hid ((nb_frac HGC.out).mono (k := 2000) (by omega))
                        have HNX := Lib.hid ((nb_frac HGX.out).mono (k := 2000) (by omega))
                        have HNE := Lib.hid ((nb_frac HGE.out).mono (k := 2000) (by omega))
                        have HNY := Lib.hid (ny0.mono (k := 2000) (by omega))
                        have HNZ := Lib.hid (((nb_frac HGE.out).mul ny0).mono (k := 2000) (by omega))
                        have HG0 := Lib.hid hg0
                        have hn2 := HNBP.out.mono (k := 2000) (by omega)
                        have CFR : Hid (∀ w b, IsRat w b 0 p → Calls Try.prog 28 #[.pointer (some ⟨b, 0, none⟩)] w fun e w' => e = .returned (.tuple #[.agg #[.int .i64 (fqOf p).N, .int .i64 (fqOf p).D], .bool (decide (Fits p))]) ∧ Keep NoS w w') := Lib.hid (fun w b h => by
                          have := fracOf_any w b 0 p h (hn2.rb (by omega)).1 (hn2.rb (by omega)).2
                          rw [fracOf_fq] at this
                          exact this)
                        have HMI := Lib.hid (And.intro hbi (And.intro x0 (And.intro x1 (And.intro e0 e1))))
                        have HM := Lib.hid (And.intro ((HKR.out.cell hb).trans HCR.out) (And.intro ((HKR.out.cell hbr).trans k0) (And.intro ((HKR.out.cell hbr).trans k1) (And.intro ((HKR.out.cell hbr).trans HC0.out) ((HKR.out.cell hbr).trans HC1.out)))))
                        have hbrx := Nat.lt_of_lt_of_le hbr HKR.out.size
                        clear hkl hcl hkr' hcr' x0 x1 e0 e1 k0 k1 tx te tk ny0 hg0 hp hn2
                        go_upto_region 25 with fail
                        clear hc1
                        refine wp_region_inv (fun w' => Keep NoS wr w') (pst25 wr.heap.size (.slice (some ⟨b, o, none⟩) t.length ca) (.slice (some ⟨br, o2, none⟩) m cr) r k c (.pointer (some ⟨b, o + r, none⟩)) (.pointer (some ⟨br, o2 + k * 2, none⟩)) (.pointer (some ⟨br, o2 + c * 2, none⟩)) (.agg #[.int .i64 gk.N, .int .i64 gk.D]) (.agg #[.int .i64 gc.N, .int .i64 gc.D]) gk.q gc.q) (by kernel_rfl) (by kernel_rfl) (by kernel_rfl) (by kernel_rfl) (by (repeat' (first | (with_reducible assumption) | (with_reducible exact HK.out) | (with_reducible exact Keep.refl _ _) | (with_reducible refine Keep.alloc ?_ _) | (with_reducible refine Keep.setCell ?_ _ (fun h => absurd h (by omega))) | (with_reducible refine Keep.drewN ?_ _) | (with_reducible refine Keep.drew ?_)))) _ (fun σ => by
                          show putAll _ σ [0, 1, 2, 3, 4, 5, 6, 7, 8, 9, 10, 11, 12, 13, 14, 15, 16, 17, 18] _ = _
                          simp only [putAll, List.getElem?_toArray, List.getElem?_cons_zero, List.getElem?_cons_succ, Act.put, List.setIfInBounds_toArray, List.set_cons_zero, List.set_cons_succ]
                          rfl) ?_ ?_
                        · intro S σ w1 hC e he HK
                          have he : e < 19 := he
                          have hC : Keep NoS wr w1 := hC
                          obtain rfl | rfl | rfl | rfl | rfl | rfl | rfl | rfl | rfl | rfl | rfl | rfl | rfl | rfl | rfl | rfl | rfl | rfl | rfl : e = 0 ∨ e = 1 ∨ e = 2 ∨ e = 3 ∨ e = 4 ∨ e = 5 ∨ e = 6 ∨ e = 7 ∨ e = 8 ∨ e = 9 ∨ e = 10 ∨ e = 11 ∨ e = 12 ∨ e = 13 ∨ e = 14 ∨ e = 15 ∨ e = 16 ∨ e = 17 ∨ e = 18 := by omega
                          · refine wpOp_at (by simp only [List.getElem?_toArray, List.getElem?_cons_zero, List.getElem?_cons_succ]; rfl) (by rfl) (fun K hK => ?_)
                            go_simp
                            exact hK _ _ ⟨hC.alloc _, fun d hd hs h => pst25_keep trivial ((Keep.refl _ _).alloc _) d _ h, _, rfl, fun _ => ⟨w1.heap.size, rfl, hC.size, Fresh.new w1⟩⟩
                          · refine wpOp_at (by simp only [List.getElem?_toArray, List.getElem?_cons_zero, List.getElem?_cons_succ]; rfl) (by rfl) (fun K hK => ?_)
                            go_simp
                            exact hK _ _ ⟨hC, fun d hd hs h => pst25_keep trivial (Keep.refl _ _) d _ h, _, rfl, rfl⟩
                          · refine wpOp_at (by simp only [List.getElem?_toArray, List.getElem?_cons_zero, List.getElem?_cons_succ]; rfl) (by rfl) (fun K hK => ?_)
                            go_simp
                            exact hK _ _ ⟨hC, fun d hd hs h => pst25_keep trivial (Keep.refl _ _) d _ h, _, rfl, rfl⟩
                          · have h1 : σ 1 = Value.slice (some ⟨b, o, none⟩) t.length ca := HK.post 1 (by kernel_rfl)
                            rw [h1]
                            have h2 : σ 2 = Value.int .i64 r := HK.post 2 (by kernel_rfl)
                            rw [h2]
                            refine wpOp_at (by simp only [List.getElem?_toArray, List.getElem?_cons_zero, List.getElem?_cons_succ]; rfl) (by rfl) (fun K hK => ?_)
                            go_simp
                            exact hK _ _ ⟨hC, fun d hd hs h => pst25_keep trivial (Keep.refl _ _) d _ h, _, rfl, rfl⟩
                          · have h3 : σ 3 = Value.pointer (some ⟨b, o + r, none⟩) := HK.post 3 (by kernel_rfl)
                            rw [h3]
                            have m0 := (hC.cell hbx).trans HM.out.1
                            refine wpOp_at (by simp only [List.getElem?_toArray, List.getElem?_cons_zero, List.getElem?_cons_succ]; rfl) (by rfl) (fun K hK => ?_)
                            go_simp
                            exact hK _ _ ⟨hC, fun d hd hs h => pst25_keep trivial (Keep.refl _ _) d _ h, _, rfl, rfl⟩
                          · refine wpOp_at (by simp only [List.getElem?_toArray, List.getElem?_cons_zero, List.getElem?_cons_succ]; rfl) (by rfl) (fun K hK => ?_)
                            go_simp
                            exact hK _ _ ⟨hC, fun d hd hs h => pst25_keep trivial (Keep.refl _ _) d _ h, _, rfl, rfl⟩
                          · have h4 : σ 4 = Value.slice (some ⟨br, o2, none⟩) m cr := HK.post 4 (by kernel_rfl)
                            rw [h4]
                            have h5 : σ 5 = Value.int .i64 k := HK.post 5 (by kernel_rfl)
                            rw [h5]
                            refine wpOp_at (by simp only [List.getElem?_toArray, List.getElem?_cons_zero, List.getElem?_cons_succ]; rfl) (by rfl) (fun K hK => ?_)
                            go_simp
                            exact hK _ _ ⟨hC, fun d hd hs h => pst25_keep trivial (Keep.refl _ _) d _ h, _, rfl, rfl⟩
                          · have h6 : σ 6 = Value.pointer (some ⟨br, o2 + k * 2, none⟩) := HK.post 6 (by kernel_rfl)
                            rw [h6]
                            have m0 := (hC.cell hbrx).trans HM.out.2.1
                            have m1 := (hC.cell hbrx).trans HM.out.2.2.1
                            refine wpOp_at (by simp only [List.getElem?_toArray, List.getElem?_cons_zero, List.getElem?_cons_succ]; rfl) (by rfl) (fun K hK => ?_)
                            go_simp
                            exact hK _ _ ⟨hC, fun d hd hs h => pst25_keep trivial (Keep.refl _ _) d _ h, _, rfl, rfl⟩
                          · have h7 : σ 7 = Value.agg #[.int .i64 gk.N, .int .i64 gk.D] := HK.post 7 (by kernel_rfl)
                            rw [h7]
                            obtain ⟨f1, f2, f3, f4, _⟩ := HGK.out
                            refine wpOp_at (by simp only [List.getElem?_toArray, List.getElem?_cons_zero, List.getElem?_cons_succ]; rfl) (by rfl) (fun K hK => ?_)
                            go_simp
                            refine (refRat_any gk.N gk.D _ (by omega) (by omega) (by omega) (by omega) (by omega)).mono ?_
                            rintro e w2 ⟨b2, hb2, rfl, hk2, hi2⟩
                            exact hK _ _ ⟨hC.both hk2, fun d hd hs h => pst25_keep trivial hk2 d _ h, _, rfl, ⟨b2, rfl, Nat.le_trans hC.size hb2, hi2⟩⟩
                          · refine wpOp_at (by simp only [List.getElem?_toArray, List.getElem?_cons_zero, List.getElem?_cons_succ]; rfl) (by rfl) (fun K hK => ?_)
                            go_simp
                            exact hK _ _ ⟨hC, fun d hd hs h => pst25_keep trivial (Keep.refl _ _) d _ h, _, rfl, rfl⟩
                          · refine wpOp_at (by simp only [List.getElem?_toArray, List.getElem?_cons_zero, List.getElem?_cons_succ]; rfl) (by rfl) (fun K hK => ?_)
                            go_simp
                            exact hK _ _ ⟨hC, fun d hd hs h => pst25_keep trivial (Keep.refl _ _) d _ h, _, rfl, rfl⟩
                          · have h9 : σ 9 = Value.slice (some ⟨b, o, none⟩) t.length ca := HK.post 9 (by kernel_rfl)
                            rw [h9]
                            have h10 : σ 10 = Value.int .i64 r := HK.post 10 (by kernel_rfl)
                            rw [h10]
                            refine wpOp_at (by simp only [List.getElem?_toArray, List.getElem?_cons_zero, List.getElem?_cons_succ]; rfl) (by rfl) (fun K hK => ?_)
                            go_simp
                            exact hK _ _ ⟨hC, fun d hd hs h => pst25_keep trivial (Keep.refl _ _) d _ h, _, rfl, rfl⟩
                          · have h11 : σ 11 = Value.pointer (some ⟨b, o + r, none⟩) := HK.post 11 (by kernel_rfl)
                            rw [h11]
                            have m0 := (hC.cell hbx).trans HM.out.1
                            refine wpOp_at (by simp only [List.getElem?_toArray, List.getElem?_cons_zero, List.getElem?_cons_succ]; rfl) (by rfl) (fun K hK => ?_)
                            go_simp
                            exact hK _ _ ⟨hC, fun d hd hs h => pst25_keep trivial (Keep.refl _ _) d _ h, _, rfl, rfl⟩
                          · refine wpOp_at (by simp only [List.getElem?_toArray, List.getElem?_cons_zero, List.getElem?_cons_succ]; rfl) (by rfl) (fun K hK => ?_)
                            go_simp
                            exact hK _ _ ⟨hC, fun d hd hs h => pst25_keep trivial (Keep.refl _ _) d _ h, _, rfl, rfl⟩
                          · have h12 : σ 12 = Value.slice (some ⟨br, o2, none⟩) m cr := HK.post 12 (by kernel_rfl)
                            rw [h12]
                            have h13 : σ 13 = Value.int .i64 c := HK.post 13 (by kernel_rfl)
                            rw [h13]
                            refine wpOp_at (by simp only [List.getElem?_toArray, List.getElem?_cons_zero, List.getElem?_cons_succ]; rfl) (by rfl) (fun K hK => ?_)
                            go_simp
                            exact hK _ _ ⟨hC, fun d hd hs h => pst25_keep trivial (Keep.refl _ _) d _ h, _, rfl, rfl⟩
                          · have h14 : σ 14 = Value.pointer (some ⟨br, o2 + c * 2, none⟩) := HK.post 14 (by kernel_rfl)
                            rw [h14]
                            have m0 := (hC.cell hbrx).trans HM.out.2.2.2.1
                            have m1 := (hC.cell hbrx).trans HM.out.2.2.2.2
                            refine wpOp_at (by simp only [List.getElem?_toArray, List.getElem?_cons_zero, List.getElem?_cons_succ]; rfl) (by rfl) (fun K hK => ?_)
                            go_simp
                            exact hK _ _ ⟨hC, fun d hd hs h => pst25_keep trivial (Keep.refl _ _) d _ h, _, rfl, rfl⟩
                          · have h15 : σ 15 = Value.agg #[.int .i64 gc.N, .int .i64 gc.D] := HK.post 15 (by kernel_rfl)
                            rw [h15]
                            obtain ⟨f1, f2, f3, f4, _⟩ := HGC.out
                            refine wpOp_at (by simp only [List.getElem?_toArray, List.getElem?_cons_zero, List.getElem?_cons_succ]; rfl) (by rfl) (fun K hK => ?_)
                            go_simp
                            refine (refRat_any gc.N gc.D _ (by omega) (by omega) (by omega) (by omega) (by omega)).mono ?_
                            rintro e w2 ⟨b2, hb2, rfl, hk2, hi2⟩
                            exact hK _ _ ⟨hC.both hk2, fun d hd hs h => pst25_keep trivial hk2 d _ h, _, rfl, ⟨b2, rfl, Nat.le_trans hC.size hb2, hi2⟩⟩
                          · obtain ⟨bz, ez, hgz, hz⟩ := (show S 17 = false → PFresh wr.heap.size (σ 0) w1 from HK.post 0 (by kernel_rfl)) HK.self
                            obtain ⟨bx, ex, hgx, hx⟩ := (show PRat wr.heap.size gk.q (σ 8) w1 from HK.post 8 (by kernel_rfl))
                            obtain ⟨bt, et, hgt, ht⟩ := (show PRat wr.heap.size gc.q (σ 16) w1 from HK.post 16 (by kernel_rfl))
                            rw [ez, ex, et]
                            refine wpOp_at (by simp only [List.getElem?_toArray, List.getElem?_cons_zero, List.getElem?_cons_succ]; rfl) (by rfl) (fun K hK => ?_)
                            go_simp
                            refine (wQuo_any w1 bz 0 bx 0 bt 0 _ _ hz.rhdr hx ht HG0.out HNK.out HNC.out).mono ?_
                            rintro e w2 ⟨rfl, hk2, hi2⟩
                            exact hK _ _ ⟨hC.newerR hk2 hgz, fun d hd hs h => pst25_add hz hk2 d _ hd h, _, rfl, ⟨bz, rfl, hgz, hi2⟩⟩
                          · obtain ⟨bx, ex, hgx, hx⟩ := (show PRat wr.heap.size (gk.q / gc.q) (σ 17) w1 from HK.post 17 (by kernel_rfl))
                            rw [ex]
                            refine wpOp_at (by simp only [List.getElem?_toArray, List.getElem?_cons_zero, List.getElem?_cons_succ]; rfl) (by rfl) (fun K hK => ?_)
                            go_simp
                            exact hK _ _ ⟨hC, fun d hd hs h => pst25_keep trivial (Keep.refl _ _) d _ h, _, rfl, ⟨bx, rfl, hgx, hx⟩⟩
                        · intro S σ w5 hC hS hP25
                          have hC : Keep NoS wr w5 := hC
                          obtain ⟨bq, e18, hgq, hq⟩ := (show PRat wr.heap.size (gk.q / gc.q) (σ 18) w5 from hP25 18 (by decide))
                          rw [e18]
                          refine NoPanic.normal ?_
                          have K6 := Lib.hid hC
                          have HQ := Lib.hid hq
                          clear hP25 hS hC e18 hgq hq HM
                          by_cases hir : i = r
                          case pos =>
                            have hii : ((i : Int) != (r : Int)) = false := by rw [bne_eq_false_iff_eq]; omega
                            have hpy : gk.q / gc.q = p := by rw [hP, if_pos hir]
                            rw [hpy] at HQ
                            clear hir hP hpy
                            have HOX := Lib.hid (HOU.out.keep K6.out)
                            have HB7x := Lib.hid (HB7.out.keep K6.out)
                            have KX := Lib.hid (HKR.out.both K6.out)
                            have HSX : Hid (w0.heap.size ≤ w5.heap.size) := Lib.hid (Nat.le_trans HSR.out K6.out.size)
                            go_wp2_with fail
                            refine (CFR.out _ bq HQ.out).mono ?_
                            rintro e w8 ⟨rfl, hk8⟩
                            have K8 := Lib.hid (KX.out.both hk8)
                            have HB8 := Lib.hid (HB7x.out.keep hk8)
                            have HO8 := Lib.hid (HOX.out.keep hk8)
                            have HS8 : Hid (w0.heap.size ≤ w8.heap.size) := Lib.hid (Nat.le_trans HSX.out hk8.size)
                            clear hk8 HOX HB7x KX HSX CFR HQ K6
                            by_cases hfit : Fits p
                            case neg =>
                              rw [decide_eq_false hfit]
                              have HNO := Lib.hid (HNOF.out hfit)
                              have k9 : Keep NoS w8 (w8.alloc (.cells #[.int .i64 (fqOf p).N, .int .i64 (fqOf p).D] 28)) := (Keep.refl _ _).alloc _
                              have HBF := Lib.hid (HB8.out.keep k9)
                              have KF := Lib.hid (K8.out.both k9)
                              clear hfit k9
                              go_wp2_with fail
                              refine (FLT _ 10 0).out.mono ?_
                              rintro e w9 ⟨rfl, hk9⟩
                              have HB9 := Lib.hid (HBF.out.keep hk9)
                              have K9 := Lib.hid (KF.out.both hk9)
                              obtain ⟨z0, z1, y0, y1, zl⟩ := HB9.out.two
                              clear hk9
                              go_simp
                              repeat go_step
                              refine bodyPost_ret (by simp [results, Try.results9, go_sem, z0, z1, zl]; rfl) rfl ?_
                              exact ⟨_, by rw [HNO.out.1]; rfl, by rw [HNO.out.2]; exact nil_tab _, keep_set2 K9.out HS7.out _ _⟩
                            case pos =>
                              rw [decide_eq_true hfit]
                              have HYS := Lib.hid (HYES.out hfit)
                              have k9 : Keep NoS w8 ((w8.alloc (.cells #[.int .i64 (fqOf p).N, .int .i64 (fqOf p).D] 28)).alloc (.cells #[.int .i64 (fqOf p).N, .int .i64 (fqOf p).D] 28)) := ((Keep.refl _ _).alloc _).alloc _
                              have HO9 := Lib.hid (HO8.out.keep k9)
                              obtain ⟨v1, wA, hr1, ho1, hg1⟩ := HO9.out.push (g := fqOf p) (b := w8.heap.size + 1) (by (repeat (first | (refine blk_at _ _ ?_; simp; done) | (refine Blk.old ?_ _)))) (by rw [pvL_len]; omega) (Nat.le_trans HS8.out k9.size)
                              rw [HLS.out] at ho1
                              have HO1 := Lib.hid ho1
                              obtain ⟨o1', d1', hs1, _⟩ := ho1.lenL
                              rw [pvL_len] at hs1
                              subst hs1
                              have hblk := fun kk hh => HO9.out.blockL kk hh
                              have K10 := Lib.hid ((K8.out.both k9).grown hg1 fun kk hh => Nat.le_trans HW0.out (hblk kk hh))
                              have HB10 := Lib.hid ((HB8.out.keep k9).grown hg1 fun kk hh => by have := hblk kk hh; have := HS70.out; omega)
                              have HS10 : Hid (w0.heap.size ≤ wA.heap.size) := Lib.hid (Nat.le_trans HS8.out (Nat.le_trans k9.size hg1.size))
                              generalize (fqOf p).N = fn at *
                              generalize (fqOf p).D = fd at *
                              clear hfit k9 ho1 hg1 hblk
                              go_wp2_with (at_builtin; refine wpList_app_run _ _ 29 _ _ rfl rfl rfl rfl hr1 ?_)
                              go_roundw
                              case rel => exact ⟨k + 1, by omega, by go_num, HYS.out, K10.out, HB10.out, HS10.out, HO1.out⟩
                              case measure => simp [intOf]; omega
                          case neg =>
                            have hii : ((i : Int) != (r : Int)) = true := by rw [bne_iff_ne]; omega
                            have hpy : gx.q - ge.q * (gk.q / gc.q) = p := by rw [hP, if_neg hir]
                            have HPY := Lib.hid hpy
                            clear hir hP hpy
                            have KW5 := HKR.out.both K6.out
                            have HM5 := Lib.hid (And.intro ((KW5.cell hb).trans HCI.out) (And.intro ((KW5.cell hbi).trans HMI.out.2.1) (And.intro ((KW5.cell hbi).trans HMI.out.2.2.1) (And.intro ((KW5.cell hbi).trans HMI.out.2.2.2.1) ((KW5.cell hbi).trans HMI.out.2.2.2.2)))))
                            have hbx5 := Nat.lt_of_lt_of_le hb KW5.size
                            have hbix := Nat.lt_of_lt_of_le hbi KW5.size
                            clear KW5
                            go_upto_region 27 with fail
                            refine wp_region_rel (fun S σ w' => Keep NoS w5 w' ∧ (S 0 = true → S 9 = true → σ 0 ≠ σ 9)) (pst27 w5.heap.size (.slice (some ⟨b, o, none⟩) t.length ca) (.slice (some ⟨bi, o3, none⟩) m ci) i k c (.pointer (some ⟨b, o + i, none⟩)) (.pointer (some ⟨bi, o3 + k * 2, none⟩)) (.pointer (some ⟨bi, o3 + c * 2, none⟩)) (.agg #[.int .i64 gx.N, .int .i64 gx.D]) (.agg #[.int .i64 ge.N, .int .i64 ge.D]) (.pointer (some ⟨bq, 0, none⟩)) gx.q ge.q (gk.q / gc.q)) (by kernel_rfl) (by kernel_rfl) (by kernel_rfl) (by kernel_rfl) (fun S σ hS => ⟨by (repeat' (first | (with_reducible assumption) | (with_reducible exact HK.out) | (with_reducible exact Keep.refl _ _) | (with_reducible refine Keep.alloc ?_ _) | (with_reducible refine Keep.setCell ?_ _ (fun h => absurd h (by omega))) | (with_reducible refine Keep.drewN ?_ _) | (with_reducible refine Keep.drew ?_))), fun h => by rw [hS 0] at h; cases h⟩) _ (fun σ => by
                              show putAll _ σ [0, 1, 2, 3, 4, 5, 6, 7, 8, 9, 10, 11, 12, 13, 14, 15, 16, 17, 18, 19, 20, 21] _ = _
                              simp only [putAll, List.getElem?_toArray, List.getElem?_cons_zero, List.getElem?_cons_succ, Act.put, List.setIfInBounds_toArray, List.set_cons_zero, List.set_cons_succ]
                              rfl) ?_ ?_
                            · intro S σ w1 hCC hall e he HK
                              have he : e < 22 := he
                              obtain ⟨hC, hR⟩ := hCC
                              obtain rfl | rfl | rfl | rfl | rfl | rfl | rfl | rfl | rfl | rfl | rfl | rfl | rfl | rfl | rfl | rfl | rfl | rfl | rfl | rfl | rfl | rfl : e = 0 ∨ e = 1 ∨ e = 2 ∨ e = 3 ∨ e = 4 ∨ e = 5 ∨ e = 6 ∨ e = 7 ∨ e = 8 ∨ e = 9 ∨ e = 10 ∨ e = 11 ∨ e = 12 ∨ e = 13 ∨ e = 14 ∨ e = 15 ∨ e = 16 ∨ e = 17 ∨ e = 18 ∨ e = 19 ∨ e = 20 ∨ e = 21 := by omega
                              · refine wpOp_at (by simp only [List.getElem?_toArray, List.getElem?_cons_zero, List.getElem?_cons_succ]; rfl) (by rfl) (fun K hK => ?_)
                                go_simp
                                exact hK _ _ ⟨_, ⟨hC.alloc _, rel_new0 fun hs => (by
                                  obtain ⟨b, e1, _, e2, _⟩ := (show PFr (S 19) w5.heap.size (σ 9) w1 from hall 9 hs)
                                  exact ⟨b, e1, e2⟩)⟩, fun d hd hs h => pst27_keep trivial ((Keep.refl _ _).alloc _) d _ h, rfl, ⟨w1.heap.size, rfl, hC.size, by simp, fun _ => Fresh.new w1⟩⟩
                              · refine wpOp_at (by simp only [List.getElem?_toArray, List.getElem?_cons_zero, List.getElem?_cons_succ]; rfl) (by rfl) (fun K hK => ?_)
                                go_simp
                                exact hK _ _ ⟨_, ⟨hC, rel_other (by omega) (by omega) hR⟩, fun d hd hs h => pst27_keep trivial (Keep.refl _ _) d _ h, rfl, rfl⟩
                              · refine wpOp_at (by simp only [List.getElem?_toArray, List.getElem?_cons_zero, List.getElem?_cons_succ]; rfl) (by rfl) (fun K hK => ?_)
                                go_simp
                                exact hK _ _ ⟨_, ⟨hC, rel_other (by omega) (by omega) hR⟩, fun d hd hs h => pst27_keep trivial (Keep.refl _ _) d _ h, rfl, rfl⟩
                              · have h1 : σ 1 = Value.slice (some ⟨b, o, none⟩) t.length ca := HK.post 1 (by kernel_rfl)
                                rw [h1]
                                have h2 : σ 2 = Value.int .i64 i := HK.post 2 (by kernel_rfl)
                                rw [h2]
                                refine wpOp_at (by simp only [List.getElem?_toArray, List.getElem?_cons_zero, List.getElem?_cons_succ]; rfl) (by rfl) (fun K hK => ?_)
                                go_simp
                                exact hK _ _ ⟨_, ⟨hC, rel_other (by omega) (by omega) hR⟩, fun d hd hs h => pst27_keep trivial (Keep.refl _ _) d _ h, rfl, rfl⟩
                              · have h3 : σ 3 = Value.pointer (some ⟨b, o + i, none⟩) := HK.post 3 (by kernel_rfl)
                                rw [h3]
                                have m0 := (hC.cell hbx5).trans HM5.out.1
                                refine wpOp_at (by simp only [List.getElem?_toArray, List.getElem?_cons_zero, List.getElem?_cons_succ]; rfl) (by rfl) (fun K hK => ?_)
                                go_simp
                                exact hK _ _ ⟨_, ⟨hC, rel_other (by omega) (by omega) hR⟩, fun d hd hs h => pst27_keep trivial (Keep.refl _ _) d _ h, rfl, rfl⟩
                              · refine wpOp_at (by simp only [List.getElem?_toArray, List.getElem?_cons_zero, List.getElem?_cons_succ]; rfl) (by rfl) (fun K hK => ?_)
                                go_simp
                                exact hK _ _ ⟨_, ⟨hC, rel_other (by omega) (by omega) hR⟩, fun d hd hs h => pst27_keep trivial (Keep.refl _ _) d _ h, rfl, rfl⟩
                              · have h4 : σ 4 = Value.slice (some ⟨bi, o3, none⟩) m ci := HK.post 4 (by kernel_rfl)
                                rw [h4]
                                have h5 : σ 5 = Value.int .i64 k := HK.post 5 (by kernel_rfl)
                                rw [h5]
                                refine wpOp_at (by simp only [List.getElem?_toArray, List.getElem?_cons_zero, List.getElem?_cons_succ]; rfl) (by rfl) (fun K hK => ?_)
                                go_simp
                                exact hK _ _ ⟨_, ⟨hC, rel_other (by omega) (by omega) hR⟩, fun d hd hs h => pst27_keep trivial (Keep.refl _ _) d _ h, rfl, rfl⟩
                              · have h6 : σ 6 = Value.pointer (some ⟨bi, o3 + k * 2, none⟩) := HK.post 6 (by kernel_rfl)
                                rw [h6]
                                have m0 := (hC.cell hbix).trans HM5.out.2.1
                                have m1 := (hC.cell hbix).trans HM5.out.2.2.1
                                refine wpOp_at (by simp only [List.getElem?_toArray, List.getElem?_cons_zero, List.getElem?_cons_succ]; rfl) (by rfl) (fun K hK => ?_)
                                go_simp
                                exact hK _ _ ⟨_, ⟨hC, rel_other (by omega) (by omega) hR⟩, fun d hd hs h => pst27_keep trivial (Keep.refl _ _) d _ h, rfl, rfl⟩
                              · have h7 : σ 7 = Value.agg #[.int .i64 gx.N, .int .i64 gx.D] := HK.post 7 (by kernel_rfl)
                                rw [h7]
                                obtain ⟨f1, f2, f3, f4, _⟩ := HGX.out
                                refine wpOp_at (by simp only [List.getElem?_toArray, List.getElem?_cons_zero, List.getElem?_cons_succ]; rfl) (by rfl) (fun K hK => ?_)
                                go_simp
                                refine (refRat_any gx.N gx.D _ (by omega) (by omega) (by omega) (by omega) (by omega)).mono ?_
                                rintro e w2 ⟨b2, hb2, rfl, hk2, hi2⟩
                                exact hK _ _ ⟨_, ⟨hC.both hk2, rel_other (by omega) (by omega) hR⟩, fun d hd hs h => pst27_keep trivial hk2 d _ h, rfl, ⟨b2, rfl, Nat.le_trans hC.size hb2, hi2⟩⟩
                              · refine wpOp_at (by simp only [List.getElem?_toArray, List.getElem?_cons_zero, List.getElem?_cons_succ]; rfl) (by rfl) (fun K hK => ?_)
                                go_simp
                                exact hK _ _ ⟨_, ⟨hC.alloc _, rel_new9 fun hs => (by
                                  obtain ⟨b, e1, _, e2, _⟩ := (show PFr (S 20) w5.heap.size (σ 0) w1 from hall 0 hs)
                                  exact ⟨b, e1, e2⟩)⟩, fun d hd hs h => pst27_keep trivial ((Keep.refl _ _).alloc _) d _ h, rfl, ⟨w1.heap.size, rfl, hC.size, by simp, fun _ => Fresh.new w1⟩⟩
                              · refine wpOp_at (by simp only [List.getElem?_toArray, List.getElem?_cons_zero, List.getElem?_cons_succ]; rfl) (by rfl) (fun K hK => ?_)
                                go_simp
                                exact hK _ _ ⟨_, ⟨hC, rel_other (by omega) (by omega) hR⟩, fun d hd hs h => pst27_keep trivial (Keep.refl _ _) d _ h, rfl, rfl⟩
                              · refine wpOp_at (by simp only [List.getElem?_toArray, List.getElem?_cons_zero, List.getElem?_cons_succ]; rfl) (by rfl) (fun K hK => ?_)
                                go_simp
                                exact hK _ _ ⟨_, ⟨hC, rel_other (by omega) (by omega) hR⟩, fun d hd hs h => pst27_keep trivial (Keep.refl _ _) d _ h, rfl, rfl⟩
                              · have h10 : σ 10 = Value.slice (some ⟨b, o, none⟩) t.length ca := HK.post 10 (by kernel_rfl)
                                rw [h10]
                                have h11 : σ 11 = Value.int .i64 i := HK.post 11 (by kernel_rfl)
                                rw [h11]
                                refine wpOp_at (by simp only [List.getElem?_toArray, List.getElem?_cons_zero, List.getElem?_cons_succ]; rfl) (by rfl) (fun K hK => ?_)
                                go_simp
                                exact hK _ _ ⟨_, ⟨hC, rel_other (by omega) (by omega) hR⟩, fun d hd hs h => pst27_keep trivial (Keep.refl _ _) d _ h, rfl, rfl⟩
                              · have h12 : σ 12 = Value.pointer (some ⟨b, o + i, none⟩) := HK.post 12 (by kernel_rfl)
                                rw [h12]
                                have m0 := (hC.cell hbx5).trans HM5.out.1
                                refine wpOp_at (by simp only [List.getElem?_toArray, List.getElem?_cons_zero, List.getElem?_cons_succ]; rfl) (by rfl) (fun K hK => ?_)
                                go_simp
                                exact hK _ _ ⟨_, ⟨hC, rel_other (by omega) (by omega) hR⟩, fun d hd hs h => pst27_keep trivial (Keep.refl _ _) d _ h, rfl, rfl⟩
                              · refine wpOp_at (by simp only [List.getElem?_toArray, List.getElem?_cons_zero, List.getElem?_cons_succ]; rfl) (by rfl) (fun K hK => ?_)
                                go_simp
                                exact hK _ _ ⟨_, ⟨hC, rel_other (by omega) (by omega) hR⟩, fun d hd hs h => pst27_keep trivial (Keep.refl _ _) d _ h, rfl, rfl⟩
                              · have h13 : σ 13 = Value.slice (some ⟨bi, o3, none⟩) m ci := HK.post 13 (by kernel_rfl)
                                rw [h13]
                                have h14 : σ 14 = Value.int .i64 c := HK.post 14 (by kernel_rfl)
                                rw [h14]
                                refine wpOp_at (by simp only [List.getElem?_toArray, List.getElem?_cons_zero, List.getElem?_cons_succ]; rfl) (by rfl) (fun K hK => ?_)
                                go_simp
                                exact hK _ _ ⟨_, ⟨hC, rel_other (by omega) (by omega) hR⟩, fun d hd hs h => pst27_keep trivial (Keep.refl _ _) d _ h, rfl, rfl⟩
                              · have h15 : σ 15 = Value.pointer (some ⟨bi, o3 + c * 2, none⟩) := HK.post 15 (by kernel_rfl)
                                rw [h15]
                                have m0 := (hC.cell hbix).trans HM5.out.2.2.2.1
                                have m1 := (hC.cell hbix).trans HM5.out.2.2.2.2
                                refine wpOp_at (by simp only [List.getElem?_toArray, List.getElem?_cons_zero, List.getElem?_cons_succ]; rfl) (by rfl) (fun K hK => ?_)
                                go_simp
                                exact hK _ _ ⟨_, ⟨hC, rel_other (by omega) (by omega) hR⟩, fun d hd hs h => pst27_keep trivial (Keep.refl _ _) d _ h, rfl, rfl⟩
                              · have h16 : σ 16 = Value.agg #[.int .i64 ge.N, .int .i64 ge.D] := HK.post 16 (by kernel_rfl)
                                rw [h16]
                                obtain ⟨f1, f2, f3, f4, _⟩ := HGE.out
                                refine wpOp_at (by simp only [List.getElem?_toArray, List.getElem?_cons_zero, List.getElem?_cons_succ]; rfl) (by rfl) (fun K hK => ?_)
                                go_simp
                                refine (refRat_any ge.N ge.D _ (by omega) (by omega) (by omega) (by omega) (by omega)).mono ?_
                                rintro e w2 ⟨b2, hb2, rfl, hk2, hi2⟩
                                exact hK _ _ ⟨_, ⟨hC.both hk2, rel_other (by omega) (by omega) hR⟩, fun d hd hs h => pst27_keep trivial hk2 d _ h, rfl, ⟨b2, rfl, Nat.le_trans hC.size hb2, hi2⟩⟩
                              · have h21 : σ 21 = Value.pointer (some ⟨bq, 0, none⟩) := HK.init 21 (HK.down 21 (by kernel_rfl))
                                rw [h21]
                                refine wpOp_at (by simp only [List.getElem?_toArray, List.getElem?_cons_zero, List.getElem?_cons_succ]; rfl) (by rfl) (fun K hK => ?_)
                                go_simp
                                exact hK _ _ ⟨_, ⟨hC, rel_other (by omega) (by omega) hR⟩, fun d hd hs h => pst27_keep trivial (Keep.refl _ _) d _ h, rfl, rfl⟩
                              · have h18 : σ 18 = Value.pointer (some ⟨bq, 0, none⟩) := HK.post 18 (by kernel_rfl)
                                rw [h18]
                                obtain ⟨bz, ez, hgz, _, hz⟩ := (show PFr (S 19) w5.heap.size (σ 9) w1 from HK.post 9 (by kernel_rfl))
                                have hz := hz HK.self
                                obtain ⟨bx, ex, hgx, hx⟩ := (show PRat w5.heap.size ge.q (σ 17) w1 from HK.post 17 (by kernel_rfl))
                                rw [ez, ex]
                                have hn0 : ∀ d, S d = true → d = 0 → σ d ≠ .pointer (some ⟨bz, 0, none⟩) := fun d hs h0 => by
                                  subst h0
                                  rw [← ez]
                                  exact hR hs (HK.up 9 (by kernel_rfl))
                                refine wpOp_at (by simp only [List.getElem?_toArray, List.getElem?_cons_zero, List.getElem?_cons_succ]; rfl) (by rfl) (fun K hK => ?_)
                                go_simp
                                refine (wMul_any w1 bz 0 bx 0 bq 0 _ _ hz.rhdr hx (HQ.out.ofNewer hC) HNE.out HNY.out).mono ?_
                                rintro e w2 ⟨rfl, hk2, hi2⟩
                                exact hK _ _ ⟨_, ⟨hC.newerR hk2 hgz, rel_other (by omega) (by omega) hR⟩, fun d hd hs h => pst27_mul hz hk2 d _ hd (hn0 d hs) h, rfl, ⟨bz, rfl, hgz, hi2⟩⟩
                              · obtain ⟨bz, ez, hgz, _, hz⟩ := (show PFr (S 20) w5.heap.size (σ 0) w1 from HK.post 0 (by kernel_rfl))
                                have hz := hz HK.self
                                obtain ⟨bx, ex, hgx, hx⟩ := (show PRat w5.heap.size gx.q (σ 8) w1 from HK.post 8 (by kernel_rfl))
                                obtain ⟨bt, et, hgt, ht⟩ := (show PRat w5.heap.size (ge.q * (gk.q / gc.q)) (σ 19) w1 from HK.post 19 (by kernel_rfl))
                                rw [ez, ex, et]
                                refine wpOp_at (by simp only [List.getElem?_toArray, List.getElem?_cons_zero, List.getElem?_cons_succ]; rfl) (by rfl) (fun K hK => ?_)
                                go_simp
                                refine (wSub_any w1 bz 0 bx 0 bt 0 _ _ hz.rhdr hx ht HNX.out HNZ.out).mono ?_
                                rintro e w2 ⟨rfl, hk2, hi2⟩
                                exact hK _ _ ⟨_, ⟨hC.newerR hk2 hgz, rel_other (by omega) (by omega) hR⟩, fun d hd hs h => pst27_sub hz hk2 (HK.up 19 (by kernel_rfl)) d _ hd h, rfl, ⟨bz, rfl, hgz, hi2⟩⟩
                              · obtain ⟨bx, ex, hgx, hx⟩ := (show PRat w5.heap.size (gx.q - ge.q * (gk.q / gc.q)) (σ 20) w1 from HK.post 20 (by kernel_rfl))
                                rw [ex]
                                refine wpOp_at (by simp only [List.getElem?_toArray, List.getElem?_cons_zero, List.getElem?_cons_succ]; rfl) (by rfl) (fun K hK => ?_)
                                go_simp
                                exact hK _ _ ⟨_, ⟨hC, rel_other (by omega) (by omega) hR⟩, fun d hd hs h => pst27_keep trivial (Keep.refl _ _) d _ h, rfl, ⟨bx, rfl, hgx, hx⟩⟩
                            · intro S σ w6 hCC hS hP27
                              obtain ⟨hC, _⟩ := hCC
                              obtain ⟨bp, e21, hgp, hq⟩ := (show PRat w5.heap.size (gx.q - ge.q * (gk.q / gc.q)) (σ 21) w6 from hP27 21 (by decide))
                              rw [e21]
                              rw [HPY.out] at hq
                              refine NoPanic.normal ?_
                              have HPP := Lib.hid hq
                              have K7 := Lib.hid (K6.out.both hC)
                              clear hP27 hS hC e21 hgp hq HM5 hbx5 hbix HPY HQ K6
                              have HOX := Lib.hid (HOU.out.keep K7.out)
                              have HB7x := Lib.hid (HB7.out.keep K7.out)
                              have KX := Lib.hid (HKR.out.both K7.out)
                              have HSX : Hid (w0.heap.size ≤ w6.heap.size) := Lib.hid (Nat.le_trans HSR.out K7.out.size)
                              go_wp2_with fail
                              refine (CFR.out _ bp HPP.out).mono ?_
                              rintro e w8 ⟨rfl, hk8⟩
                              have K8 := Lib.hid (KX.out.both hk8)
                              have HB8 := Lib.hid (HB7x.out.keep hk8)
                              have HO8 := Lib.hid (HOX.out.keep hk8)
                              have HS8 : Hid (w0.heap.size ≤ w8.heap.size) := Lib.hid (Nat.le_trans HSX.out hk8.size)
                              clear hk8 HOX HB7x KX HSX CFR HPP K7
                              by_cases hfit : Fits p
                              case neg =>
                                rw [decide_eq_false hfit]
                                have HNO := Lib.hid (HNOF.out hfit)
                                have k9 : Keep NoS w8 (w8.alloc (.cells #[.int .i64 (fqOf p).N, .int .i64 (fqOf p).D] 28)) := (Keep.refl _ _).alloc _
                                have HBF := Lib.hid (HB8.out.keep k9)
                                have KF := Lib.hid (K8.out.both k9)
                                clear hfit k9
                                go_wp2_with fail
                                refine (FLT _ 10 0).out.mono ?_
                                rintro e w9 ⟨rfl, hk9⟩
                                have HB9 := Lib.hid (HBF.out.keep hk9)
                                have K9 := Lib.hid (KF.out.both hk9)
                                obtain ⟨z0, z1, y0, y1, zl⟩ := HB9.out.two
                                clear hk9
                                go_simp
                                repeat go_step
                                refine bodyPost_ret (by simp [results, Try.results9, go_sem, z0, z1, zl]; rfl) rfl ?_
                                exact ⟨_, by rw [HNO.out.1]; rfl, by rw [HNO.out.2]; exact nil_tab _, keep_set2 K9.out HS7.out _ _⟩
                              case pos =>
                                rw [decide_eq_true hfit]
                                have HYS := Lib.hid (HYES.out hfit)
                                have k9 : Keep NoS w8 ((w8.alloc (.cells #[.int .i64 (fqOf p).N, .int .i64 (fqOf p).D] 28)).alloc (.cells #[.int .i64 (fqOf p).N, .int .i64 (fqOf p).D] 28)) := ((Keep.refl _ _).alloc _).alloc _
                                have HO9 := Lib.hid (HO8.out.keep k9)
                                obtain ⟨v1, wA, hr1, ho1, hg1⟩ := HO9.out.push (g := fqOf p) (b := w8.heap.size + 1) (by (repeat (first | (refine blk_at _ _ ?_; simp; done) | (refine Blk.old ?_ _)))) (by rw [pvL_len]; omega) (Nat.le_trans HS8.out k9.size)
                                rw [HLS.out] at ho1
                                have HO1 := Lib.hid ho1
                                obtain ⟨o1', d1', hs1, _⟩ := ho1.lenL
                                rw [pvL_len] at hs1
                                subst hs1
                                have hblk := fun kk hh => HO9.out.blockL kk hh
                                have K10 := Lib.hid ((K8.out.both k9).grown hg1 fun kk hh => Nat.le_trans HW0.out (hblk kk hh))
                                have HB10 := Lib.hid ((HB8.out.keep k9).grown hg1 fun kk hh => by have := hblk kk hh; have := HS70.out; omega)
                                have HS10 : Hid (w0.heap.size ≤ wA.heap.size) := Lib.hid (Nat.le_trans HS8.out (Nat.le_trans k9.size hg1.size))
                                generalize (fqOf p).N = fn at *
                                generalize (fqOf p).D = fd at *
                                clear hfit k9 ho1 hg1 hblk
                                go_wp2_with (at_builtin; refine wpList_app_run _ _ 29 _ _ rfl rfl rfl rfl hr1 ?_)
                                go_roundw
                                case rel => exact ⟨k + 1, by omega, by go_num, HYS.out, K10.out, HB10.out, HS10.out, HO1.out⟩
                                case measure => simp [intOf]; omega

end Go.Proofs.Ytamjmcdlddocgaa
