/- The reference's Strict. -/
import Derived.Test.YtihcbmkjfacooaaFkQ
namespace Go.Proofs.Ytihcbmkjfacooaa
open Go.ChangeShapes Go.WideShapes Go.RowKit
set_option linter.unusedVariables false
set_option linter.unusedSimpArgs false

theorem q_zeroS {g : Fq} (h : FracOK g.N g.D) : g.q = 0 ↔ g.N = 0 := by
  have hd := h.1
  show Rat.divInt g.N g.D = 0 ↔ g.N = 0
  constructor
  · intro h
    rw [← Rat.zero_divInt g.D, Rat.divInt_eq_divInt_iff (by omega) (by omega), Int.zero_mul] at h
    rcases Int.mul_eq_zero.1 h with h | h
    · exact h
    · omega
  · intro h; rw [h, Rat.zero_divInt]
theorem strK_mono {rows : List Rw} {ts : List Rat} {k : Nat} (h : strK rows ts k = true) : ∀ j, strK rows ts (k + j) = true
  | 0 => h
  | j + 1 => by show strK rows ts (k + j + 1) = true; simp only [strK]; rw [strK_mono h j]; rfl

set_option maxRecDepth 100000 in
set_option maxHeartbeats 8000000 in
theorem refStrict_any (w : World) (v : Value) (rows : List Rw) (vt : Value) (times : List Fq) (h : IsRows w v rows) (ht : IsFracs w vt times) (hlen : times.length = rows.length) (hfr : ∀ g ∈ times, FracOK g.N g.D) :
    Calls Try.prog 47 #[v, vt] w fun e w' => e = .returned (.bool (strK rows (times.map Fq.q) rows.length)) ∧ Keep NoS w w' := by
  have HR := Lib.hid h
  have HT := Lib.hid ht
  have HFR := Lib.hid hfr
  have HLEN := Lib.hid hlen
  obtain ⟨oa, ca, rfl, _, hma⟩ := h.len
  obtain ⟨ot, ct, rfl, _, hmt⟩ := ht.len
  unfold maxLen at hma hmt
  clear h ht hfr hlen
  go_enter Try.func47, Try.ntmps47
  go_wp2
  go_loopw [5] (fun s wr => ∃ k : Nat, k ≤ rows.length ∧ s = .int .i64 k ∧ strK rows (times.map Fq.q) k = false ∧ Keep NoS w wr) (fun s _ => (rows.length - intOf s).toNat)
  case atStart => exact ⟨0, by omega, rfl, rfl, Keep.refl _ _⟩
  case round =>
    obtain ⟨k, hk, rfl, hs, hkr⟩ := hrel
    have HS := Lib.hid hs
    have HKR := Lib.hid hkr
    clear hs hkr
    by_cases hkl : k < rows.length
    case neg =>
      have hlt : ¬ (k : Int) < (rows.length : Int) := by omega
      obtain rfl : k = rows.length := by omega
      go_wp2
      go_ret
      exact ⟨by rw [HS.out]; rfl, HKR.out⟩
    case pos =>
      have hlt : (k : Int) < (rows.length : Int) := by omega
      have hkt : k < times.length := by have := HLEN.out; omega
      have hltt : (k : Int) < (times.length : Int) := by omega
      obtain ⟨b, o, rfl, hbl, hrow⟩ := HR.out.at hkl
      obtain ⟨os, cs, p0, p1, p2, hrow⟩ := hrow.row
      obtain ⟨b', o', rfl, hbl', c0, c1⟩ := HT.out.at hkt
      have p0 := (HKR.out.cell hbl).trans p0
      have p1 := (HKR.out.cell hbl).trans p1
      have p2 := (HKR.out.cell hbl).trans p2
      have c0 := (HKR.out.cell hbl').trans c0
      have c1 := (HKR.out.cell hbl').trans c1
      have hblr := Nat.lt_of_lt_of_le hbl HKR.out.size
      have hblr' := Nat.lt_of_lt_of_le hbl' HKR.out.size
      have hst : strK rows (times.map Fq.q) (k + 1) = (decide (rows[k].kind = 2) && decide ((times[k]).q ≠ 0)) := by
        simp only [strK]
        rw [HS.out, row_getD hkl, map_getD hkt, Bool.false_or]
      have hqz := q_zeroS (HFR.out _ (List.getElem_mem hkt))
      simp only [ne_eq, hqz] at hst
      generalize rows[k] = r at *
      obtain ⟨rof, rkd, rto⟩ := r
      generalize (times[k]).N = gn at *
      generalize (times[k]).D = gd at *
      simp only at p0 p1 p2 hst
      clear hrow hqz
      by_cases h2 : rkd = 2
      case neg =>
        have e1 : (rkd == 2) = false := by rw [beq_eq_false_iff_ne]; exact h2
        have HST : Hid (strK rows (times.map Fq.q) (k + 1) = false) := Lib.hid (by rw [hst]; simp [h2])
        clear hst h2
        go_wp2
        go_roundw
        case rel => exact ⟨k + 1, by omega, by go_num, HST.out, HKR.out⟩
        case measure => simp [intOf]; omega
      case pos =>
        have e1 : (rkd == 2) = true := by rw [beq_iff_eq]; exact h2
        by_cases hg : gn = 0
        case pos =>
          have e2 : (gn != 0) = false := by rw [bne_eq_false_iff_eq]; exact hg
          have HST : Hid (strK rows (times.map Fq.q) (k + 1) = false) := Lib.hid (by rw [hst]; simp [hg])
          clear hst hg h2
          go_wp2
          go_roundw
          case rel => exact ⟨k + 1, by omega, by go_num, HST.out, HKR.out⟩
          case measure => simp [intOf]; omega
        case neg =>
          have e2 : (gn != 0) = true := by rw [bne_iff_ne]; exact hg
          have HST : Hid (strK rows (times.map Fq.q) rows.length = true) := Lib.hid (by
            have h0 : strK rows (times.map Fq.q) (k + 1) = true := by rw [hst]; simp [hg, h2]
            have := strK_mono h0 (rows.length - (k + 1))
            rwa [show k + 1 + (rows.length - (k + 1)) = rows.length by omega] at this)
          clear hst hg h2
          go_wp2
          go_ret
          exact ⟨by rw [HST.out]; rfl, HKR.out⟩
end Go.Proofs.Ytihcbmkjfacooaa
