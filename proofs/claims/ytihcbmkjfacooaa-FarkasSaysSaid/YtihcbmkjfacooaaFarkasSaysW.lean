/- The law FarkasSays: its walk. -/
import Derived.Test.YtihcbmkjfacooaaFkM
import Derived.Test.YtihcbmkjfacooaaFkE
import Derived.Test.YtihcbmkjfacooaaRfT
import Derived.Test.YtihcbmkjfacooaaRfN
import Derived.Test.YtihcbmkjfacooaaRfF
import Derived.Test.YtihcbmkjfacooaaLies
namespace Go.Proofs.Ytihcbmkjfacooaa
open Go.ChangeShapes Go.WideShapes Go.RowKit
set_option linter.unusedVariables false
set_option linter.unusedSimpArgs false

def toldRw : List Rw := [⟨[1], 1, 2⟩, ⟨[-1], 1, -3⟩]
def toldFr : List Fq := [⟨1, 1⟩, ⟨1, 1⟩]
theorem toldRw_fact : farkF toldRw 1 toldFr = (0, 0) ∧ fkB toldRw toldFr 1 = true := by decide +kernel
theorem toldFr_i64 : ∀ g ∈ toldFr, I64 g.N ∧ I64 g.D := by unfold toldFr I64; simp
set_option maxRecDepth 100000 in
set_option maxHeartbeats 8000000 in
theorem tellFark_any (w : World) : Calls Try.prog 31 #[] w fun e w' => e = .returned (.bool true) ∧ Keep NoS w w' := by
  have CT := fun w' v vt (h : IsRows w' v toldRw) (ht : IsFracs w' vt toldFr) => Lib.hid (takeFk_any w' v toldRw 1 vt toldFr h (by unfold I64; omega) ht)
  rw [toldRw_fact.1, toldRw_fact.2] at CT
  unfold fV at CT
  simp only at CT
  go_enter Try.func31, Try.ntmps31
  go_wp2_with fail
  refine (CT _ _ _ (lie_rows (b := w.heap.size + 1 + 1 + 1) (xs := [⟨.slice (some ⟨w.heap.size + 1, 0, none⟩) 1 1, ⟨[1], 1, 2⟩⟩, ⟨.slice (some ⟨w.heap.size + 1 + 1, 0, none⟩) 1 1, ⟨[-1], 1, -3⟩⟩]) (by (repeat (first | (refine blk_at _ _ ?_; simp; done) | (refine Blk.old ?_ _)))) rfl rfl rfl ?_ (by simp [maxLen])) (lie_fracs (b := w.heap.size + 1 + 1 + 1 + 1) (by (repeat (first | (refine blk_at _ _ ?_; simp; done) | (refine Blk.old ?_ _)))) rfl rfl toldFr_i64 (by simp [toldFr, maxLen]))).out.mono ?_
  · intro x hx
    simp at hx
    rcases hx with rfl | rfl
    · exact lie_row (b := w.heap.size + 1) [1] 1 2 (by (repeat (first | (refine blk_at _ _ ?_; simp; done) | (refine Blk.old ?_ _)))) rfl (by decide) (by decide) (by decide) (by decide) 1 rfl
    · exact lie_row (b := w.heap.size + 1 + 1) [-1] 1 (-3) (by (repeat (first | (refine blk_at _ _ ?_; simp; done) | (refine Blk.old ?_ _)))) rfl (by decide) (by decide) (by decide) (by decide) 1 rfl
  rintro e w1 ⟨rfl, hk1⟩
  have K1 : Hid (Keep NoS w w1) := Lib.hid (Keep.both (by (repeat' (first | (with_reducible assumption) | (with_reducible exact HK.out) | (with_reducible exact Keep.refl _ _) | (with_reducible refine Keep.alloc ?_ _) | (with_reducible refine Keep.setCell ?_ _ (fun h => absurd h (by omega))) | (with_reducible refine Keep.drewN ?_ _) | (with_reducible refine Keep.drew ?_)))) hk1)
  have HK := K1
  clear hk1
  go_wp2
  go_ret
  exact ⟨rfl, by (repeat' (first | (with_reducible assumption) | (with_reducible exact HK.out) | (with_reducible exact Keep.refl _ _) | (with_reducible refine Keep.alloc ?_ _) | (with_reducible refine Keep.setCell ?_ _ (fun h => absurd h (by omega))) | (with_reducible refine Keep.drewN ?_ _) | (with_reducible refine Keep.drew ?_)))⟩

/-- The columns' fractions, so far. -/
def wantL (rows : List Rw) (ts : List Rat) (N k : Nat) : List Fq := (List.range k).map fun j => fqOf (refCol rows ts N j rows.length)
theorem wantL_succ (rows : List Rw) (ts : List Rat) (N k : Nat) : wantL rows ts N (k + 1) = wantL rows ts N k ++ [fqOf (refCol rows ts N k rows.length)] := by
  unfold wantL
  rw [List.range_succ, List.map_append]; rfl
theorem wantL_len (rows : List Rw) (ts : List Rat) (N k : Nat) : (wantL rows ts N k).length = k := by simp [wantL]
theorem wantL_cols (rows : List Rw) (ts : List Rat) (N : Nat) : wantL rows ts N (N + 1) = (colL rows ts N rows.length).map fqOf ++ [fqOf (toK rows ts rows.length)] := by
  rw [wantL_succ]
  congr 1
  · unfold wantL colL
    rw [List.map_map]
    apply List.map_congr_left
    intro j hj
    show fqOf (refCol rows ts N j rows.length) = fqOf (colK rows ts j rows.length)
    unfold refCol
    rw [if_pos (List.mem_range.1 hj)]
  · unfold refCol
    rw [if_neg (by omega)]
theorem sumOK_fits {rows : List Rw} {ts : List Rat} {N : Nat} : sumOK rows ts N = true ↔ ∀ k, k ≤ N → Fits (refCol rows ts N k rows.length) := by
  unfold sumOK
  rw [Bool.and_eq_true, decide_eq_true_eq, List.all_eq_true]
  constructor
  · rintro ⟨h1, h2⟩ k hk
    unfold refCol
    by_cases hkn : k < N
    · rw [if_pos hkn]
      exact of_decide_eq_true (h2 _ (List.mem_map.2 ⟨k, List.mem_range.2 hkn, rfl⟩))
    · rw [if_neg hkn]; exact h1
  · intro h
    refine ⟨?_, fun q hq => ?_⟩
    · have := h N (Nat.le_refl _)
      unfold refCol at this
      rwa [if_neg (by omega)] at this
    · obtain ⟨k, hk, rfl⟩ := List.mem_map.1 hq
      have hk := List.mem_range.1 hk
      have := h k (by omega)
      unfold refCol at this
      rw [if_pos hk] at this
      exact decide_eq_true this
theorem fracs_first {w : World} {oa : Option Addr} {N cap : Nat} {l : List Fq} {g : Fq} (h : IsFracs w (.slice oa (N + 1) cap) (l ++ [g])) (hl : l.length = N) : IsFracs w (.slice oa N cap) l := by
  obtain ⟨oa', cap', hv, h1, h2, h3, h4⟩ := h
  injection hv with hv1 hv2 hv3
  subst hv1 hv3
  rw [List.length_append, List.length_singleton] at h1
  refine ⟨oa, cap, by rw [hl], by omega, h2, fun x hx => h3 x (by simp [hx]), fun hne => ?_⟩
  obtain ⟨b, o, e, hb, hc⟩ := h4 (by simp)
  refine ⟨b, o, e, hb, fun i x hi => hc i x ?_⟩
  rw [List.getElem?_append_left (List.getElem?_eq_some_iff.1 hi).1]
  exact hi

set_option maxRecDepth 100000 in
set_option maxHeartbeats 16000000 in
theorem farkasSays_walk (w : World) (v : Value) (rows : List Rw) (n : Int) (vt : Value) (times : List Fq) (h : IsRows w v rows) (hn : I64 n) (ht : IsFracs w vt times) :
    Calls Try.prog 9 #[v, .int .i64 n, vt] w fun e w' => e = .returned (.bool true) ∧ Below w.heap.size w w' := by
  suffices hk : Calls Try.prog 9 #[v, .int .i64 n, vt] w fun e w' => e = .returned (.bool true) ∧ Keep NoS w w' from hk.mono fun e w' ⟨h1, h2⟩ => ⟨h1, h2.below (Nat.le_refl _) fun _ _ h => h.elim⟩
  have CS := fun w' (k : Keep NoS w w') => Lib.hid (sumFk_any w' v rows n vt times (h.keep k) hn (ht.keep k))
  have CT := fun w' (k : Keep NoS w w') => Lib.hid (takeFk_any w' v rows n vt times (h.keep k) hn (ht.keep k))
  have CM := fun w' (k : Keep NoS w w') => Lib.hid (refTimes_any w' v rows n vt times (h.keep k) hn (ht.keep k))
  have CN := Lib.hid (fun (w' : World) (k : Keep NoS w w') (N : Nat) hok h40 hN hlen hfr => refToNone_any w' v rows N vt times (h.keep k) (ht.keep k) hok h40 hN hlen hfr)
  have CC := Lib.hid (fun (w' : World) (k : Keep NoS w w') (N j : Nat) hok h40 hlen hfr => refCol_any w' v rows N j vt times (h.keep k) (ht.keep k) hok h40 hlen hfr)
  have CX := Lib.hid (fun (w' : World) (k : Keep NoS w w') hlen hfr => refStrict_any w' v rows vt times (h.keep k) (ht.keep k) hlen hfr)
  have HZ : Hid ((farkF rows n times).1 ≠ 0 → fkB rows times n = false ∧ sumS rows n times = ⟨[], 0, 0, false, (farkF rows n times).1, (farkF rows n times).2⟩) := Lib.hid (fun h => ⟨by unfold fkB; rw [if_neg h], by unfold sumS; rw [if_neg h]⟩)
  have HO : Hid ((farkF rows n times).1 = 0 → farkF rows n times = (0, 0) ∧ ∃ N : Nat, n = (N : Int) ∧ N ≤ 12 ∧ rows.length ≤ 40 ∧ (∀ r ∈ rows, RowOK r N) ∧ times.length = rows.length ∧ (∀ g ∈ times, FracOK g.N g.D) ∧ fkB rows times n = refB rows (times.map Fq.q) N ∧ sumS rows n times = if sumOK rows (times.map Fq.q) N = true then ⟨(colL rows (times.map Fq.q) N rows.length).map fqOf, (fqOf (toK rows (times.map Fq.q) rows.length)).N, (fqOf (toK rows (times.map Fq.q) rows.length)).D, strK rows (times.map Fq.q) rows.length, 0, 0⟩ else ⟨[], 0, 0, false, 10, 0⟩) := Lib.hid (fun h => by
    obtain ⟨h1, hl0, hlen, hfr⟩ := farkF_ok h
    obtain ⟨hn0, hn12, h40, hok⟩ := listF_ok hl0
    obtain ⟨N, rfl⟩ : ∃ N : Nat, n = (N : Int) := ⟨n.toNat, by omega⟩
    refine ⟨h1, N, rfl, by omega, h40, hok, hlen, hfr, ?_, ?_⟩
    · unfold fkB; rw [if_pos h]; rfl
    · unfold sumS; rw [if_pos h]; rfl)
  generalize fkB rows times n = tb at *
  generalize sumS rows n times = S at *
  generalize farkF rows n times = lf at *
  obtain ⟨f1, f2⟩ := lf
  obtain ⟨SL, Sa, Sb, Sl, Sc, Sd⟩ := S
  unfold fV at CT CM
  simp only at CS CT CM HZ HO
  obtain ⟨oa, ca, rfl, _, _⟩ := h.len
  obtain ⟨ot, ct, rfl, _, _⟩ := ht.len
  clear h ht
  go_enter Try.func9, Try.ntmps9
  go_wp2_with fail
  refine ((CS _ (by (repeat' (first | (with_reducible assumption) | (with_reducible exact HK.out) | (with_reducible exact Keep.refl _ _) | (with_reducible refine Keep.alloc ?_ _) | (with_reducible refine Keep.setCell ?_ _ (fun h => absurd h (by omega))) | (with_reducible refine Keep.drewN ?_ _) | (with_reducible refine Keep.drew ?_))))).out).mono ?_
  rintro e w1 ⟨u, rfl, hu, hk⟩
  have K1 : Hid (Keep NoS w w1) := Lib.hid (Keep.both (by (repeat' (first | (with_reducible assumption) | (with_reducible exact HK.out) | (with_reducible exact Keep.refl _ _) | (with_reducible refine Keep.alloc ?_ _) | (with_reducible refine Keep.setCell ?_ _ (fun h => absurd h (by omega))) | (with_reducible refine Keep.drewN ?_ _) | (with_reducible refine Keep.drew ?_)))) hk)
  have HU := Lib.hid hu
  obtain ⟨ou, cu, rfl, _⟩ := hu.len
  clear hk hu CS
  go_wp2_with fail
  refine ((CT _ ((K1.out.alloc _).alloc _)).out).mono ?_
  rintro e w2 ⟨rfl, hk⟩
  have Bb8 : Blk w2 (w1.heap.size) #[.int .i64 Sa, .int .i64 Sb] := Blk.keep (by (repeat (first | (with_reducible assumption) | (refine blk_at _ _ ?_; simp; done) | (refine Blk.old ?_ _)))) hk
  have Bb10 : Blk w2 (w1.heap.size + 1) #[.int .i64 Sc, .int .i64 Sd] := Blk.keep (by (repeat (first | (with_reducible assumption) | (refine blk_at _ _ ?_; simp; done) | (refine Blk.old ?_ _)))) hk
  have k2 : Keep NoS w1 w2 := Keep.trans (by (repeat' (first | (with_reducible assumption) | (with_reducible exact HK.out) | (with_reducible exact Keep.refl _ _) | (with_reducible refine Keep.alloc ?_ _) | (with_reducible refine Keep.setCell ?_ _ (fun h => absurd h (by omega))) | (with_reducible refine Keep.drewN ?_ _) | (with_reducible refine Keep.drew ?_)))) hk fun _ _ _ h => h
  have K2 := Lib.hid (K1.out.both k2)
  have Hb8 := Lib.hid Bb8
  have Hb10 := Lib.hid Bb10
  have HU := Lib.hid (HU.out.keep k2)
  clear hk Bb8 Bb10 k2 CT
  generalize w1.heap.size + 1 = b10 at *
  generalize w1.heap.size = b8 at *
  obtain ⟨b80, b81, _, _, b8l⟩ := Hb8.out.two
  obtain ⟨b100, b101, _, _, b10l⟩ := Hb10.out.two
  have b8n0 : ¬ b8 = w2.heap.size := by omega
  have b10n0 : ¬ b10 = w2.heap.size := by omega
  go_wp2_with fail
  refine (tellFark_any _).mono ?_
  rintro e w3 ⟨rfl, hk⟩
  have Bb12 : Blk w3 (w2.heap.size) #[.int .i64 f1, .int .i64 f2] := Blk.keep (by (repeat (first | (with_reducible assumption) | (refine blk_at _ _ ?_; simp; done) | (refine Blk.old ?_ _)))) hk
  have k3 : Keep NoS w2 w3 := Keep.trans (by (repeat' (first | (with_reducible assumption) | (with_reducible exact HK.out) | (with_reducible exact Keep.refl _ _) | (with_reducible refine Keep.alloc ?_ _) | (with_reducible refine Keep.setCell ?_ _ (fun h => absurd h (by omega))) | (with_reducible refine Keep.drewN ?_ _) | (with_reducible refine Keep.drew ?_)))) hk fun _ _ _ h => h
  have K3 := Lib.hid (K2.out.both k3)
  have Hb8 := Lib.hid (Hb8.out.keep k3)
  have Hb10 := Lib.hid (Hb10.out.keep k3)
  have Hb12 := Lib.hid Bb12
  have HU := Lib.hid (HU.out.keep k3)
  clear b80 b81 b8l b100 b101 b10l b8n0 b10n0 hk Bb12 k3
  generalize w2.heap.size = b12 at *
  obtain ⟨b80, b81, _, _, b8l⟩ := Hb8.out.two
  obtain ⟨b100, b101, _, _, b10l⟩ := Hb10.out.two
  obtain ⟨b120, b121, _, _, b12l⟩ := Hb12.out.two
  go_wp2_with fail
  refine ((CM _ K3.out).out).mono ?_
  rintro e w4 ⟨rfl, hk⟩
  have k4 : Keep NoS w3 w4 := Keep.trans (by (repeat' (first | (with_reducible assumption) | (with_reducible exact HK.out) | (with_reducible exact Keep.refl _ _) | (with_reducible refine Keep.alloc ?_ _) | (with_reducible refine Keep.setCell ?_ _ (fun h => absurd h (by omega))) | (with_reducible refine Keep.drewN ?_ _) | (with_reducible refine Keep.drew ?_)))) hk fun _ _ _ h => h
  have K4 := Lib.hid (K3.out.both k4)
  have Hb8 := Lib.hid (Hb8.out.keep k4)
  have Hb10 := Lib.hid (Hb10.out.keep k4)
  have Hb12 := Lib.hid (Hb12.out.keep k4)
  have HU := Lib.hid (HU.out.keep k4)
  clear b80 b81 b8l b100 b101 b10l b120 b121 b12l hk k4 CM
  obtain ⟨b80, b81, _, _, b8l⟩ := Hb8.out.two
  obtain ⟨b100, b101, _, _, b10l⟩ := Hb10.out.two
  obtain ⟨b120, b121, _, _, b12l⟩ := Hb12.out.two
  have n8 : ¬ b8 = w4.heap.size := by omega
  have n10 : ¬ b10 = w4.heap.size := by omega
  have n12 : ¬ b12 = w4.heap.size := by omega
  have HK := K4
  by_cases hf : f1 = 0
  case neg =>
    obtain ⟨rfl, hS⟩ := HZ.out hf
    cases hS
    have e1 : (f1 != 0) = true := by rw [bne_iff_ne]; exact hf
    clear HZ HO CN CC CX hf
    go_wp2
    go_ret
    exact ⟨by simp, by (repeat' (first | (with_reducible assumption) | (with_reducible exact HK.out) | (with_reducible exact Keep.refl _ _) | (with_reducible refine Keep.alloc ?_ _) | (with_reducible refine Keep.setCell ?_ _ (fun h => absurd h (by omega))) | (with_reducible refine Keep.drewN ?_ _) | (with_reducible refine Keep.drew ?_)))⟩
  case pos =>
    obtain ⟨hlf, N, rfl, hN, h40, hok, hlen, hfr, htb, hS⟩ := HO.out hf
    cases hlf
    subst htb
    have CN := fun w' k => Lib.hid (CN.out w' k N hok h40 hN hlen hfr)
    have CC := Lib.hid (fun w' k j => CC.out w' k N j hok h40 hlen hfr)
    have CX := fun w' k => Lib.hid (CX.out w' k hlen hfr)
    have hnt : ∀ q ∈ (times.map Fq.q), NB 1 q := by
      intro q hq
      obtain ⟨g, hg, rfl⟩ := List.mem_map.1 hq
      exact nb_frac (hfr g hg)
    have HNB := Lib.hid (fun k => (nb_refCol (N := N) (k := k) hok hnt rows.length).rb (by omega))
    generalize refB rows (times.map Fq.q) N = tb at *
    have HFT := Lib.hid (sumOK_fits (rows := rows) (ts := (times.map Fq.q)) (N := N))
    generalize sumOK rows (times.map Fq.q) N = so at *
    clear HZ HO hf hok hlen hfr hnt
    have H8 := Lib.hid (Hb8.out.old (.cells #[.int .i64 0, .int .i64 0] 26))
    have H10 := Lib.hid (Hb10.out.old (.cells #[.int .i64 0, .int .i64 0] 26))
    have HU := Lib.hid (HU.out.keep ((Keep.refl NoS w4).alloc (.cells #[.int .i64 0, .int .i64 0] 26)))
    go_wp2_with fail
    refine (CN _ (K4.out.alloc _)).out.mono ?_
    rintro e w6 ⟨rfl, hk6⟩
    have K6 := Lib.hid ((K4.out.alloc _).both hk6)
    have H8 := Lib.hid (H8.out.keep hk6)
    have H10 := Lib.hid (H10.out.keep hk6)
    have HU := Lib.hid (HU.out.keep hk6)
    clear hk6 CN b80 b81 b8l b100 b101 b10l b120 b121 b12l n8 n10 n12 HK
    obtain ⟨tb2, htb2⟩ : ∃ b : Bool, b = (tb != tb) := ⟨_, rfl⟩
    have HTB : Hid ((tb != tb) = false) := Lib.hid (by cases tb <;> rfl)
    have htt := HTB.out
    clear htb2 tb2
    cases so
    case true =>
      rw [if_pos rfl] at hS
      obtain ⟨hSL, rfl, rfl, rfl, rfl, rfl⟩ := SumR.mk.inj hS
      have HSL := Lib.hid hSL
      clear hSL hS
      go_wp2
      clear htt
      go_loopw [14, 15] (fun s x wr => ∃ k : Nat, k ≤ N + 1 ∧ x = .int .i64 k ∧ Keep NoS w6 wr ∧ OwnF wr w6.heap.size s (wantL rows (times.map Fq.q) N k) ∧ ∀ j, j < k → Fits (refCol rows (times.map Fq.q) N j rows.length)) (fun _ s _ => (N + 1 - intOf s).toNat)
      case atStart => exact ⟨0, by omega, rfl, Keep.refl _ _, OwnG.nil _ _, fun j hj => by omega⟩
      case round =>
        obtain ⟨k, hk, rfl, hkr, hou, hfj⟩ := hrel
        have HKR := Lib.hid hkr
        have HOU := Lib.hid hou
        have HFJ := Lib.hid hfj
        obtain ⟨o4, c4, h4, hcap0, _⟩ := hou.len
        rw [wantL_len] at h4 hcap0
        have HCAP := Lib.hid hcap0
        clear hcap0
        subst h4
        clear hkr hou hfj
        by_cases hkn : k ≤ N
        case pos =>
          have hlt : (k : Int) ≤ (N : Int) := by omega
          have CK := fun w' (k' : Keep NoS wr w') => Lib.hid (CC.out w' (K6.out.both (HKR.out.both k')) k)
          have HNBK := Lib.hid (HNB.out k)
          have HWS := Lib.hid (wantL_succ rows (times.map Fq.q) N k)
          have HFK := Lib.hid (show Fits (refCol rows (times.map Fq.q) N k rows.length) → ∀ j, j < k + 1 → Fits (refCol rows (times.map Fq.q) N j rows.length) from fun h j hj => by
            by_cases hjk : j = k
            · subst hjk; exact h
            · exact HFJ.out j (by omega))
          have HFTK : Hid (Fits (refCol rows (times.map Fq.q) N k rows.length)) := Lib.hid (by have h0 := HFT.out; simp at h0; exact h0 k hkn)
          generalize refCol rows (times.map Fq.q) N k rows.length = q at CK HNBK HWS HFK HFTK
          go_wp2_with fail
          refine (CK _ (Keep.refl _ _)).out.mono ?_
          rintro e w7 ⟨b7, hb7, rfl, hk7, hi7⟩
          have K7 := Lib.hid (HKR.out.both hk7)
          have HO7 := Lib.hid (HOU.out.keep hk7)
          have HI7 := Lib.hid hi7
          clear hk7 hi7 hb7 CK
          have CF := Lib.hid (fracOf_any w7 b7 0 q HI7.out HNBK.out.1 HNBK.out.2)
          rw [fracOf_fq] at CF
          clear HI7
          go_wp2_with fail
          refine CF.out.mono ?_
          rintro e w8 ⟨rfl, hk8⟩
          have K8 := Lib.hid (K7.out.both hk8)
          have HO8 := Lib.hid (HO7.out.keep hk8)
          clear hk8 CF
          have hfit := HFTK.out
          rw [decide_eq_true hfit]
          have k9 : Keep NoS w8 ((w8.alloc (.cells #[.int .i64 (fqOf q).N, .int .i64 (fqOf q).D] 38)).alloc (.cells #[.int .i64 (fqOf q).N, .int .i64 (fqOf q).D] 38)) := by have HK := Lib.hid (Keep.refl NoS w8); (repeat' (first | (with_reducible assumption) | (with_reducible exact HK.out) | (with_reducible exact Keep.refl _ _) | (with_reducible refine Keep.alloc ?_ _) | (with_reducible refine Keep.setCell ?_ _ (fun h => absurd h (by omega))) | (with_reducible refine Keep.drewN ?_ _) | (with_reducible refine Keep.drew ?_)))
          obtain ⟨v1, wA, hr1, ho1, hg1, _⟩ := app_frac (g := fqOf q) (HO8.out.keep k9) (b := w8.heap.size + 1) (by (repeat (first | (refine blk_at _ _ ?_; simp; done) | (refine Blk.old ?_ _)))) (by rw [wantL_len]; omega) (Nat.le_trans K8.out.size k9.size)
          have K10 := Lib.hid ((K8.out.both k9).grown hg1 fun k hk => HO8.out.block k hk)
          rw [← HWS.out] at ho1
          have HO1 := Lib.hid ho1
          obtain ⟨o1', d1', hs1, _⟩ := ho1.len
          rw [wantL_len] at hs1
          subst hs1
          clear k9 ho1 hg1
          have HFN := Lib.hid (HFK.out hfit)
          clear HFK HWS hfit
          go_wp2_with (at_builtin; refine wpList_app_run _ _ 39 _ _ rfl rfl rfl rfl hr1 ?_)
          go_roundw
          case rel => exact ⟨k + 1, by omega, by go_num, K10.out, HO1.out, HFN.out⟩
          case measure => simp [intOf]; omega
        case neg =>
          have hlt : ¬ (k : Int) ≤ (N : Int) := by omega
          obtain rfl : k = N + 1 := by omega
          have hw := wantL_cols rows (times.map Fq.q) N
          rw [← HSL.out] at hw
          have hou := HOU.out
          rw [hw] at hou
          have HIW := Lib.hid (OwnG.fracs hou (fun g hg => by
            rw [← hw] at hg
            obtain ⟨j, _, rfl⟩ := List.mem_map.1 hg
            exact fqOf_i64 _))
          have hsl : SL.length = N := by rw [HSL.out, List.length_map, colL_len]
          have HIF := Lib.hid (fracs_first HIW.out hsl)
          obtain ⟨bq, oq, rfl, hbq, p0, p1⟩ := HIW.out.at (k := N) (by rw [List.length_append, hsl]; simp)
          rw [List.getElem_append_right (by rw [hsl]; exact Nat.le_refl _)] at p0 p1
          simp only [List.getElem_singleton] at p0 p1
          have HUR := Lib.hid (HU.out.keep HKR.out)
          have H8 := Lib.hid (H8.out.keep HKR.out)
          have H10 := Lib.hid (H10.out.keep HKR.out)
          have KR := Lib.hid (K6.out.both HKR.out)
          have CSM := fun (w' : World) (k' : Keep NoS wr w') => Lib.hid (sameFracs_same w' _ _ SL (HUR.out.keep k') (HIF.out.keep k'))
          have CX := fun w' (k' : Keep NoS wr w') => CX w' (KR.out.both k')
          have hltN : (N : Int) < (N : Int) + 1 := by omega
          have hcapI : (N : Int) ≤ (c4 : Int) := by have := HCAP.out; omega
          have hcapN : N ≤ c4 := by have := HCAP.out; omega
          have hnn : ¬ (N : Int) < 0 := by omega
          have h0n : (0 : Int) ≤ (N : Int) := by omega
          generalize (fqOf (toK rows (times.map Fq.q) rows.length)).N = en at *
          generalize (fqOf (toK rows (times.map Fq.q) rows.length)).D = ed at *
          generalize strK rows (times.map Fq.q) rows.length = sb at *
          clear hw hou HOU HSL HIW HIF HUR HFJ HFT HU hsl CC HNB
          go_upto_region 18 with fail
          refine wp_region_by (fun w' => Keep NoS wr w') [] [([0, 1, 2, 3, 4, 5, 6, 7], 8), ([9, 10, 11, 12, 13, 14, 15, 16, 17, 18, 19, 20, 21], 22)] [23, 24, 25] (by kernel_rfl) (by kernel_rfl) (by (repeat' (first | (with_reducible assumption) | (with_reducible exact HK.out) | (with_reducible exact Keep.refl _ _) | (with_reducible refine Keep.alloc ?_ _) | (with_reducible refine Keep.setCell ?_ _ (fun h => absurd h (by omega))) | (with_reducible refine Keep.drewN ?_ _) | (with_reducible refine Keep.drew ?_)))) ?_
          intro X W hne hF hcl
          have HCL := Lib.hid hcl
          have a0 := fun x => (H10.out.keep (hF x)).two
          have a1 := fun x => (H8.out.keep (hF x)).two
          have a2 := fun x => ((hF x).cell hbq).trans p0
          have a3 := fun x => ((hF x).cell hbq).trans p1
          clear hF hcl
          simp only [wpPlan, pickOps, List.getElem?_toArray, List.getElem?_cons_zero, List.getElem?_cons_succ, clsOf, Bool.false_eq_true, if_false]
          (repeat (quiet_step (fail))); refine wpQuiet_nil ?_
          refine wpOp_wanted (by simp only [List.getElem?_toArray, List.getElem?_cons_zero, List.getElem?_cons_succ]; rfl) (by rfl) (fun K hK => ?_)
          go_simp
          refine (CSM _ (by (repeat' (first | (with_reducible assumption) | (with_reducible exact HK.out) | (with_reducible exact Keep.refl _ _) | (with_reducible refine Keep.alloc ?_ _) | (with_reducible refine Keep.setCell ?_ _ (fun h => absurd h (by omega))) | (with_reducible refine Keep.drewN ?_ _) | (with_reducible refine Keep.drew ?_))))).out.mono ?_
          rintro e wA ⟨rfl, hkA⟩
          have kA : Keep NoS wr wA := Keep.trans (by (repeat' (first | (with_reducible assumption) | (with_reducible exact HK.out) | (with_reducible exact Keep.refl _ _) | (with_reducible refine Keep.alloc ?_ _) | (with_reducible refine Keep.setCell ?_ _ (fun h => absurd h (by omega))) | (with_reducible refine Keep.drewN ?_ _) | (with_reducible refine Keep.drew ?_)))) hkA fun _ _ _ h => h
          refine hK _ _ ⟨fun _ => HCL.out _ kA, ?_⟩
          clear hK K hkA CSM
          (repeat (quiet_step (fail))); refine wpQuiet_nil ?_
          refine wpOp_wanted (by simp only [List.getElem?_toArray, List.getElem?_cons_zero, List.getElem?_cons_succ]; rfl) (by rfl) (fun K hK => ?_)
          go_simp
          refine (CX _ kA).out.mono ?_
          rintro e wB ⟨rfl, hkB⟩
          have kB := kA.both hkB
          refine hK _ _ ⟨fun _ => HCL.out _ kB, ?_⟩
          have KB := Lib.hid (KR.out.both kB)
          clear hK K hkB kA kB
          cases sb
          · (repeat (quiet_step (fail))); refine wpQuiet_nil ?_
            refine NoPanic.normal ?_
            go_wp2
            go_ret
            exact ⟨rfl, KB.out⟩
          · (repeat (quiet_step (fail))); refine wpQuiet_nil ?_
            refine NoPanic.normal ?_
            go_wp2
            go_ret
            exact ⟨rfl, KB.out⟩
    case false =>
      rw [if_neg (by decide)] at hS
      cases hS
      go_wp2
      clear htt
      go_loopw [14, 15] (fun s x wr => ∃ k : Nat, k ≤ N + 1 ∧ x = .int .i64 k ∧ Keep NoS w6 wr ∧ OwnF wr w6.heap.size s (wantL rows (times.map Fq.q) N k) ∧ ∀ j, j < k → Fits (refCol rows (times.map Fq.q) N j rows.length)) (fun _ s _ => (N + 1 - intOf s).toNat)
      case atStart => exact ⟨0, by omega, rfl, Keep.refl _ _, OwnG.nil _ _, fun j hj => by omega⟩
      case round =>
        obtain ⟨k, hk, rfl, hkr, hou, hfj⟩ := hrel
        have HKR := Lib.hid hkr
        have HOU := Lib.hid hou
        have HFJ := Lib.hid hfj
        obtain ⟨o4, c4, h4, hcap0, _⟩ := hou.len
        rw [wantL_len] at h4 hcap0
        have HCAP := Lib.hid hcap0
        clear hcap0
        subst h4
        clear hkr hou hfj
        by_cases hkn : k ≤ N
        case pos =>
          have hlt : (k : Int) ≤ (N : Int) := by omega
          have CK := fun w' (k' : Keep NoS wr w') => Lib.hid (CC.out w' (K6.out.both (HKR.out.both k')) k)
          have HNBK := Lib.hid (HNB.out k)
          have HWS := Lib.hid (wantL_succ rows (times.map Fq.q) N k)
          have HFK := Lib.hid (show Fits (refCol rows (times.map Fq.q) N k rows.length) → ∀ j, j < k + 1 → Fits (refCol rows (times.map Fq.q) N j rows.length) from fun h j hj => by
            by_cases hjk : j = k
            · subst hjk; exact h
            · exact HFJ.out j (by omega))
          generalize refCol rows (times.map Fq.q) N k rows.length = q at CK HNBK HWS HFK
          go_wp2_with fail
          refine (CK _ (Keep.refl _ _)).out.mono ?_
          rintro e w7 ⟨b7, hb7, rfl, hk7, hi7⟩
          have K7 := Lib.hid (HKR.out.both hk7)
          have HO7 := Lib.hid (HOU.out.keep hk7)
          have HI7 := Lib.hid hi7
          clear hk7 hi7 hb7 CK
          have CF := Lib.hid (fracOf_any w7 b7 0 q HI7.out HNBK.out.1 HNBK.out.2)
          rw [fracOf_fq] at CF
          clear HI7
          go_wp2_with fail
          refine CF.out.mono ?_
          rintro e w8 ⟨rfl, hk8⟩
          have K8 := Lib.hid (K7.out.both hk8)
          have HO8 := Lib.hid (HO7.out.keep hk8)
          clear hk8 CF
          by_cases hfit : Fits q
          case pos =>
            rw [decide_eq_true hfit]
            have k9 : Keep NoS w8 ((w8.alloc (.cells #[.int .i64 (fqOf q).N, .int .i64 (fqOf q).D] 38)).alloc (.cells #[.int .i64 (fqOf q).N, .int .i64 (fqOf q).D] 38)) := by have HK := Lib.hid (Keep.refl NoS w8); (repeat' (first | (with_reducible assumption) | (with_reducible exact HK.out) | (with_reducible exact Keep.refl _ _) | (with_reducible refine Keep.alloc ?_ _) | (with_reducible refine Keep.setCell ?_ _ (fun h => absurd h (by omega))) | (with_reducible refine Keep.drewN ?_ _) | (with_reducible refine Keep.drew ?_)))
            obtain ⟨v1, wA, hr1, ho1, hg1, _⟩ := app_frac (g := fqOf q) (HO8.out.keep k9) (b := w8.heap.size + 1) (by (repeat (first | (refine blk_at _ _ ?_; simp; done) | (refine Blk.old ?_ _)))) (by rw [wantL_len]; omega) (Nat.le_trans K8.out.size k9.size)
            have K10 := Lib.hid ((K8.out.both k9).grown hg1 fun k hk => HO8.out.block k hk)
            rw [← HWS.out] at ho1
            have HO1 := Lib.hid ho1
            obtain ⟨o1', d1', hs1, _⟩ := ho1.len
            rw [wantL_len] at hs1
            subst hs1
            clear k9 ho1 hg1
            have HFN := Lib.hid (HFK.out hfit)
            clear HFK HWS hfit
            go_wp2_with (at_builtin; refine wpList_app_run _ _ 39 _ _ rfl rfl rfl rfl hr1 ?_)
            go_roundw
            case rel => exact ⟨k + 1, by omega, by go_num, K10.out, HO1.out, HFN.out⟩
            case measure => simp [intOf]; omega
          case neg =>
            rw [decide_eq_false hfit]
            clear HFK HWS hfit
            go_upto_region 16 with fail
            have KQ : Hid (Keep NoS w (w8.alloc (.cells #[.int .i64 (fqOf q).N, .int .i64 (fqOf q).D] 38))) := Lib.hid (K6.out.both (K8.out.alloc _))
            have H8 := Lib.hid (H8.out.keep (K8.out.alloc (.cells #[.int .i64 (fqOf q).N, .int .i64 (fqOf q).D] 38)))
            have H10 := Lib.hid (H10.out.keep (K8.out.alloc (.cells #[.int .i64 (fqOf q).N, .int .i64 (fqOf q).D] 38)))
            generalize w8.alloc (.cells #[.int .i64 (fqOf q).N, .int .i64 (fqOf q).D] 38) = w9 at *
            refine wp_region_by (fun w' => Keep NoS w9 w') [] [([0], 1)] [2, 3, 4, 5, 6, 7, 8, 9, 10, 11, 12, 13, 14, 15, 16, 17] (by kernel_rfl) (by kernel_rfl) (by (repeat' (first | (with_reducible assumption) | (with_reducible exact HK.out) | (with_reducible exact Keep.refl _ _) | (with_reducible refine Keep.alloc ?_ _) | (with_reducible refine Keep.setCell ?_ _ (fun h => absurd h (by omega))) | (with_reducible refine Keep.drewN ?_ _) | (with_reducible refine Keep.drew ?_)))) ?_
            intro X W hne hF hcl
            have HCL := Lib.hid hcl
            have a0 := fun x => (H10.out.keep (hF x)).two
            have a1 := fun x => (H8.out.keep (hF x)).two
            clear hF hcl
            simp only [wpPlan, pickOps, List.getElem?_toArray, List.getElem?_cons_zero, List.getElem?_cons_succ, clsOf, Bool.false_eq_true, if_false]
            (repeat (quiet_step (fail))); refine wpQuiet_nil ?_
            refine wpOp_at (by simp only [List.getElem?_toArray, List.getElem?_cons_zero, List.getElem?_cons_succ]; rfl) (by rfl) (fun K hK => ?_)
            go_simp
            refine (fault_any 10 0 _).mono ?_
            rintro e wA ⟨rfl, hkA⟩
            have kA : Keep NoS w9 wA := Keep.trans (by (repeat' (first | (with_reducible assumption) | (with_reducible exact HK.out) | (with_reducible exact Keep.refl _ _) | (with_reducible refine Keep.alloc ?_ _) | (with_reducible refine Keep.setCell ?_ _ (fun h => absurd h (by omega))) | (with_reducible refine Keep.drewN ?_ _) | (with_reducible refine Keep.drew ?_)))) hkA fun _ _ _ h => h
            refine hK _ _ ⟨fun _ => HCL.out _ kA, ?_⟩
            have KA := Lib.hid (KQ.out.both kA)
            clear hK K hkA kA
            unfold fV
            (repeat (quiet_step (fail))); refine wpQuiet_nil ?_
            refine NoPanic.normal ?_
            go_wp2
            go_ret
            exact ⟨rfl, KA.out⟩
        case neg =>
          have hlt : ¬ (k : Int) ≤ (N : Int) := by omega
          obtain rfl : k = N + 1 := by omega
          have h0 := HFT.out
          simp at h0
          obtain ⟨j, hj, hnf⟩ := h0
          exact absurd (HFJ.out j (by omega)) hnf
end Go.Proofs.Ytihcbmkjfacooaa
