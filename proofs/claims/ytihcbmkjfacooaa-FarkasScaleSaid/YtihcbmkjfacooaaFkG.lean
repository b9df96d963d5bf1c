/- The law package's fracs, the reference's AllHold; rows and fractions that lie in blocks of the call's own; farkasTold. -/
import Derived.Test.YtihcbmkjfacooaaFkE
import Derived.Test.YtihcbmkjfacooaaOwnG
import Derived.Test.YtihcbmkjfacooaaPtAA
namespace Go.Proofs.Ytihcbmkjfacooaa
open Go.ChangeShapes Go.WideShapes Go.RowKit
set_option linter.unusedVariables false
set_option linter.unusedSimpArgs false

def fracsB (l : List Fq) : Bool := l.all fun g => decide (FracOK g.N g.D)
theorem all_drop {α : Type} {l : List α} {p : α → Bool} {k : Nat} (hk : k < l.length) : (l.drop k).all p = (p l[k] && (l.drop (k + 1)).all p) := by
  rw [List.drop_eq_getElem_cons hk, List.all_cons]
theorem fracsB_ok {l : List Fq} (h : fracsB l = true) : ∀ g ∈ l, FracOK g.N g.D := by
  intro g hg
  have := List.all_eq_true.1 h g hg
  exact of_decide_eq_true this

set_option maxRecDepth 100000 in
set_option maxHeartbeats 8000000 in
theorem lawFracs_any (w : World) (v : Value) (l : List Fq) (h : IsFracs w v l) :
    Calls Try.prog 33 #[v] w fun e w' => e = .returned (.bool (fracsB l)) ∧ Keep NoS w w' := by
  have HN := Lib.hid h
  obtain ⟨oa, ca, rfl, hca, hma⟩ := h.len
  unfold maxLen at hma
  clear h
  go_enter Try.func33, Try.ntmps33
  go_wp2
  go_loopw [3] (fun s wr => ∃ k : Nat, k ≤ l.length ∧ s = .int .i64 k ∧ fracsB l = (l.drop k).all (fun g => decide (FracOK g.N g.D)) ∧ Keep NoS w wr) (fun s _ => (l.length - intOf s).toNat)
  case atStart => exact ⟨0, by omega, rfl, rfl, Keep.refl _ _⟩
  case round =>
    obtain ⟨k, hk, rfl, hf, hkr⟩ := hrel
    have HF := Lib.hid hf
    have HKR := Lib.hid hkr
    clear hf hkr
    by_cases hkl : k < l.length
    · have hlt : (k : Int) < (l.length : Int) := by omega
      obtain ⟨b, o, rfl, hbl, p0, p1⟩ := (HN.out.keep HKR.out).at hkl
      have HA := Lib.hid (all_drop (p := fun g : Fq => decide (FracOK g.N g.D)) hkl)
      generalize l[k] = g at *
      obtain ⟨gn, gd⟩ := g
      simp only at p0 p1 HA
      have CC := fun w => Lib.hid (refRight_any gn gd w)
      by_cases hx : FracOK gn gd
      · have HNX := Lib.hid (HF.out.trans (HA.out.trans (by rw [decide_eq_true hx, Bool.true_and])))
        rw [decide_eq_true hx] at CC
        clear hx HA HF
        go_wp2_with fail
        refine (CC _).out.mono ?_
        rintro e w4 ⟨rfl, hk4⟩
        have K4 := Lib.hid (HKR.out.both hk4)
        clear hk4 p0 p1
        go_wp2
        go_roundw
        case rel => exact ⟨k + 1, by omega, by go_num, HNX.out, K4.out⟩
        case measure => simp [intOf]; omega
      · have HNX : Hid (fracsB l = false) := Lib.hid (HF.out.trans (HA.out.trans (by rw [decide_eq_false hx, Bool.false_and])))
        rw [decide_eq_false hx] at CC
        clear hx HA HF
        go_wp2_with fail
        refine (CC _).out.mono ?_
        rintro e w4 ⟨rfl, hk4⟩
        have K4 := Lib.hid (HKR.out.both hk4)
        clear hk4 p0 p1
        go_wp2
        go_ret
        exact ⟨by rw [HNX.out]; rfl, K4.out⟩
    · have hlt : ¬ (k : Int) < (l.length : Int) := by omega
      have HNX : Hid (fracsB l = true) := Lib.hid (HF.out.trans (by rw [List.drop_eq_nil_of_le (by omega)]; rfl))
      clear HF
      go_wp2
      go_ret
      exact ⟨by rw [HNX.out]; rfl, HKR.out⟩

def rowHB (nums : List Fq) (r : Rw) : Bool := decide ((ptF r nums).1 = 0) && holdsB r nums
def allHB (rows : List Rw) (nums : List Fq) : Bool := rows.all (rowHB nums)
theorem allHB_ok {rows : List Rw} {nums : List Fq} (h : allHB rows nums = true) : ∀ r ∈ rows, (ptF r nums).1 = 0 ∧ holdsB r nums = true := by
  intro r hr
  have := List.all_eq_true.1 h r hr
  unfold rowHB at this
  simpa using this

set_option maxRecDepth 100000 in
set_option maxHeartbeats 8000000 in
theorem allHold_any (w : World) (v : Value) (rows : List Rw) (vn : Value) (nums : List Fq) (h : IsRows w v rows) (hn : IsFracs w vn nums) :
    Calls Try.prog 34 #[v, vn] w fun e w' => e = .returned (.bool (allHB rows nums)) ∧ Keep NoS w w' := by
  have HR := Lib.hid h
  have HN := Lib.hid hn
  obtain ⟨oa, ca, rfl, hca, hma⟩ := h.len
  unfold maxLen at hma
  obtain ⟨ot, ct, rfl, _, _⟩ := hn.len
  clear h hn
  go_enter Try.func34, Try.ntmps34
  go_wp2
  go_loopw [5] (fun s wr => ∃ k : Nat, k ≤ rows.length ∧ s = .int .i64 k ∧ allHB rows nums = (rows.drop k).all (rowHB nums) ∧ Keep NoS w wr) (fun s _ => (rows.length - intOf s).toNat)
  case atStart => exact ⟨0, by omega, rfl, rfl, Keep.refl _ _⟩
  case round =>
    obtain ⟨k, hk, rfl, hf, hkr⟩ := hrel
    have HF := Lib.hid hf
    have HKR := Lib.hid hkr
    clear hf hkr
    by_cases hkl : k < rows.length
    case pos =>
      have hlt : (k : Int) < (rows.length : Int) := by omega
      have HA := Lib.hid (all_drop (p := rowHB nums) hkl)
      obtain ⟨b, o, rfl, hbl, hrow⟩ := (HR.out.keep HKR.out).at hkl
      generalize rows[k] = r at *
      obtain ⟨os, cs, p0, p1, p2, hrow⟩ := hrow.row
      have HROW := Lib.hid hrow
      have CP := fun w' (k : Keep NoS wr w') => Lib.hid (refPoint_any w' _ r _ nums (HROW.out.keep k) (HN.out.keep (HKR.out.both k)))
      have CH := fun w' (k : Keep NoS wr w') hok hq => Lib.hid (refHolds_any w' _ r _ nums (HROW.out.keep k) (HN.out.keep (HKR.out.both k)) hok hq)
      have HOK := Lib.hid (fun h => ptF_ok (r := r) (nums := nums) h)
      have HRB := Lib.hid (show rowHB nums r = (decide ((ptF r nums).1 = 0) && holdsB r nums) from rfl)
      generalize rowHB nums r = rb at *
      generalize ptF r nums = c at *
      obtain ⟨c1, c2⟩ := c
      unfold fV at CP
      simp only at CP HRB HOK
      clear hrow HROW
      by_cases hc : c1 = 0
      case pos =>
        obtain ⟨_, hok, hq⟩ := HOK.out hc
        have CH := fun w' (k : Keep NoS wr w') => CH w' k hok hq
        subst hc
        have hrb : rb = holdsB r nums := HRB.out.trans (by simp)
        generalize holdsB r nums = hb at *
        clear HOK hok hq HRB
        subst hrb
        go_wp2_with fail
        refine (CP _ (Keep.refl _ _)).out.mono ?_
        rintro e w4 ⟨rfl, hk4⟩
        have p0 := (hk4.cell hbl).trans p0
        have p1 := (hk4.cell hbl).trans p1
        have p2 := (hk4.cell hbl).trans p2
        have hbl := Nat.lt_of_lt_of_le hbl hk4.size
        have CH := CH w4 hk4
        have K4 := Lib.hid (HKR.out.both hk4)
        clear CP hk4
        go_wp2_with fail
        refine CH.out.mono ?_
        rintro e w5 ⟨rfl, hk5⟩
        have K5 := Lib.hid (K4.out.both hk5)
        clear hk5 CH p0 p1 p2
        cases rb
        · have HNX : Hid (allHB rows nums = false) := Lib.hid (HF.out.trans (HA.out.trans (by rw [Bool.false_and])))
          clear HA HF
          go_wp2
          go_ret
          exact ⟨by rw [HNX.out]; rfl, K5.out⟩
        · have HNX := Lib.hid (HF.out.trans (HA.out.trans (by rw [Bool.true_and])))
          clear HA HF
          go_wp2
          go_roundw
          case rel => exact ⟨k + 1, by omega, by go_num, HNX.out, K5.out⟩
          case measure => simp [intOf]; omega
      case neg =>
        have e1 : (c1 != 0) = true := by rw [bne_iff_ne]; exact hc
        have hrb : rb = false := HRB.out.trans (by simp [hc])
        subst hrb
        have HNX : Hid (allHB rows nums = false) := Lib.hid (HF.out.trans (HA.out.trans (by rw [Bool.false_and])))
        clear HA HF HRB HOK CH
        go_wp2_with fail
        refine (CP _ (Keep.refl _ _)).out.mono ?_
        rintro e w4 ⟨rfl, hk4⟩
        have K4 := Lib.hid (HKR.out.both hk4)
        clear hk4 p0 p1 p2 CP
        go_wp2
        go_ret
        exact ⟨by rw [HNX.out]; rfl, K4.out⟩
    case neg =>
      have hlt : ¬ (k : Int) < (rows.length : Int) := by omega
      have HNX : Hid (allHB rows nums = true) := Lib.hid (HF.out.trans (by rw [List.drop_eq_nil_of_le (by omega)]; rfl))
      clear HF
      go_wp2
      go_ret
      exact ⟨by rw [HNX.out]; rfl, HKR.out⟩

/-! ### things that lie in blocks -/
theorem ints_blk {w : World} {b : Nat} {xs : List Int} {cs : Array Value} {n : Nat} (h : Blk w b cs) (hc : cs = (iv xs).toArray) (hn : n = xs.length) (hx : ∀ x ∈ xs, I64 x) (hl : xs.length ≤ maxLen) : IsInts w (.slice (some ⟨b, 0, none⟩) n n) xs := by
  subst hn hc
  refine ⟨_, _, rfl, hl, hx, fun hne => ⟨b, 0, rfl, h.lt, fun i x hi => ?_⟩⟩
  rw [h.cell, Nat.zero_add]
  simp [iv, hi]
theorem fracs_blk {w : World} {b : Nat} {l : List Fq} {cs : Array Value} {n : Nat} (h : Blk w b cs) (hc : cs = (l.flatMap fqC).toArray) (hn : n = l.length) (hx : ∀ g ∈ l, I64 g.N ∧ I64 g.D) (hl : l.length ≤ maxLen) : IsFracs w (.slice (some ⟨b, 0, none⟩) n n) l := by
  subst hn hc
  refine ⟨_, _, rfl, Nat.le_refl _, by exact hl, hx, fun hne => ⟨b, 0, rfl, h.lt, fun i x hi => ?_⟩⟩
  have h0 := flat_get fqC_len l i x hi 0 (by omega)
  have h1 := flat_get fqC_len l i x hi 1 (by omega)
  rw [h.cell, h.cell, Nat.zero_add]
  simp at h0 h1 ⊢
  exact ⟨h0, h1⟩
theorem rows_blk {w : World} {b : Nat} {xs : List RwV} {cs : Array Value} {n : Nat} {l : List Rw} (h : Blk w b cs) (hc : cs = (xs.flatMap rwC).toArray) (hl : l = xs.map RwV.r) (hn : n = xs.length) (hx : ∀ x ∈ xs, IsInts w x.sv x.r.of ∧ I64 x.r.kind ∧ I64 x.r.to ∧ CapOK x.sv) (hm : xs.length ≤ maxLen) : IsRows w (.slice (some ⟨b, 0, none⟩) n n) l := by
  subst hn hc hl
  refine ⟨_, _, by rw [List.length_map], by rw [List.length_map]; exact Nat.le_refl _, hm, fun hne => ⟨b, 0, rfl, h.lt, fun i r hi => ?_⟩⟩
  rw [List.getElem?_map] at hi
  rcases hy : xs[i]? with _ | y
  · rw [hy] at hi; cases hi
  · rw [hy] at hi
    simp at hi
    subst hi
    have h0 := flat_get rwC_len xs i y hy 0 (by omega)
    have h1 := flat_get rwC_len xs i y hy 1 (by omega)
    have h2 := flat_get rwC_len xs i y hy 2 (by omega)
    obtain ⟨h6, h7⟩ := hx y (List.mem_of_getElem? hy)
    refine ⟨y.sv, ?_, ?_, ?_, h6, h7⟩
    · rw [h.cell, Nat.zero_add]; rw [show (rwC y)[0]? = some _ from rfl] at h0; simpa using h0
    · rw [h.cell, Nat.zero_add]; rw [show (rwC y)[1]? = some _ from rfl] at h1; simpa using h1
    · rw [h.cell, Nat.zero_add]; rw [show (rwC y)[2]? = some _ from rfl] at h2; simpa using h2
end Go.Proofs.Ytihcbmkjfacooaa
