/- The law LatticeTakings: its walk. -/
import Derived.Test.YtihcbmkjfacooaaRfE
import Derived.Test.YtihcbmkjfacooaaRfT
import Derived.Test.YtihcbmkjfacooaaRfL
import Derived.Test.YtihcbmkjfacooaaLies
namespace Go.Proofs.Ytihcbmkjfacooaa
open Go.ChangeShapes Go.WideShapes Go.RowKit
set_option linter.unusedVariables false
set_option linter.unusedSimpArgs false

def toldEq : List Rw := [⟨[2], 3, 1⟩]
def toldHalf : List Fq := [⟨1, 2⟩]
theorem toldEq_fact : ltF toldEq 1 toldHalf = (0, 0) ∧ ltB toldEq 1 toldHalf = true := by decide +kernel
theorem toldHalf_i64 : ∀ g ∈ toldHalf, I64 g.N ∧ I64 g.D := by unfold toldHalf I64; simp
theorem ltF_fark {rows : List Rw} {n : Int} {times : List Fq} (h : (eqF rows n).1 = 0) : farkF rows n times = ltF rows n times := by
  have hl : (listF rows n).1 = 0 := by
    unfold eqF at h
    by_cases h1 : (listF rows n).1 = 0
    · exact h1
    · rw [if_pos h1] at h; exact h
  unfold farkF ltF
  rw [if_neg (show ¬ (listF rows n).1 ≠ 0 by simp [hl]), if_neg (show ¬ (eqF rows n).1 ≠ 0 by simp [h])]

set_option maxRecDepth 100000 in
set_option maxHeartbeats 16000000 in
theorem latticeTakings_walk (w : World) (v : Value) (rows : List Rw) (n : Int) (vt : Value) (times : List Fq) (h : IsRows w v rows) (hn : I64 n) (ht : IsFracs w vt times) :
    Calls Try.prog 5 #[v, .int .i64 n, vt] w fun e w' => e = .returned (.bool true) ∧ Below w.heap.size w w' := by
  suffices hk : Calls Try.prog 5 #[v, .int .i64 n, vt] w fun e w' => e = .returned (.bool true) ∧ Keep NoS w w' from hk.mono fun e w' ⟨h1, h2⟩ => ⟨h1, h2.below (Nat.le_refl _) fun _ _ h => h.elim⟩
  have CT := fun w' (k : Keep NoS w w') => Lib.hid (latTake_any w' v rows n vt times (h.keep k) hn (ht.keep k))
  have CE := fun w' (k : Keep NoS w w') => Lib.hid (refEq_any w' v rows n (h.keep k) hn)
  have CM := fun w' (k : Keep NoS w w') => Lib.hid (refTimes_any w' v rows n vt times (h.keep k) hn (ht.keep k))
  have CL := fun (w' : World) (k : Keep NoS w w') (N : Nat) hok h40 hN hlen hfr => Lib.hid (refLT_any w' v rows N vt times (h.keep k) (ht.keep k) hok h40 hN hlen hfr)
  have CF := fun w' v vt (h : IsRows w' v toldEq) (ht : IsFracs w' vt toldHalf) => Lib.hid (latTake_any w' v toldEq 1 vt toldHalf h (by unfold I64; omega) ht)
  rw [toldEq_fact.1, toldEq_fact.2] at CF
  have HZ : Hid ((ltF rows n times).1 ≠ 0 → ltB rows n times = false) := Lib.hid (fun h => by unfold ltB; rw [if_neg h])
  have HE : Hid ((eqF rows n).1 ≠ 0 → ltF rows n times = eqF rows n) := Lib.hid (fun h => by unfold ltF; rw [if_pos h])
  have HM : Hid ((eqF rows n).1 = 0 → farkF rows n times = ltF rows n times) := Lib.hid (fun h => ltF_fark h)
  have HO : Hid ((ltF rows n times).1 = 0 → ltF rows n times = (0, 0) ∧ ∃ N : Nat, n = (N : Int) ∧ N ≤ 12 ∧ rows.length ≤ 40 ∧ (∀ r ∈ rows, RowOK r N) ∧ times.length = rows.length ∧ (∀ g ∈ times, FracOK g.N g.D) ∧ ltB rows n times = lt1 rows (times.map Fq.q) N) := Lib.hid (fun h => by
    obtain ⟨h1, h2, h3, _, h4⟩ := ltF_ok h
    obtain ⟨_, h5, h6, h7, h8, _⟩ := eqF_ok h2
    obtain ⟨N, rfl⟩ : ∃ N : Nat, n = (N : Int) := ⟨n.toNat, by omega⟩
    refine ⟨h1, N, rfl, by omega, h7, h8, h3, h4, ?_⟩
    unfold ltB
    rw [if_pos h]
    rfl)
  generalize ltB rows n times = tb at *
  generalize farkF rows n times = fm at *
  generalize ltF rows n times = lf at *
  generalize eqF rows n = ce at *
  obtain ⟨f1, f2⟩ := lf
  obtain ⟨c1, c2⟩ := ce
  unfold fV at CT CE CM CF
  simp only at CT CE CM CF HZ HE HM HO
  obtain ⟨oa, ca, rfl, _, _⟩ := h.len
  obtain ⟨ot, ct, rfl, _, _⟩ := ht.len
  clear h ht
  go_enter Try.func5, Try.ntmps5
  go_wp2_with fail
  refine ((CT _ (by (repeat' (first | (with_reducible assumption) | (with_reducible exact HK.out) | (with_reducible exact Keep.refl _ _) | (with_reducible refine Keep.alloc ?_ _) | (with_reducible refine Keep.setCell ?_ _ (fun h => absurd h (by omega))) | (with_reducible refine Keep.drewN ?_ _) | (with_reducible refine Keep.drew ?_))))).out).mono ?_
  rintro e w1 ⟨rfl, hk⟩
  have K1 : Hid (Keep NoS w w1) := Lib.hid (Keep.both (by (repeat' (first | (with_reducible assumption) | (with_reducible exact HK.out) | (with_reducible exact Keep.refl _ _) | (with_reducible refine Keep.alloc ?_ _) | (with_reducible refine Keep.setCell ?_ _ (fun h => absurd h (by omega))) | (with_reducible refine Keep.drewN ?_ _) | (with_reducible refine Keep.drew ?_)))) hk)
  clear hk CT
  go_wp2_with fail
  refine ((CF _ _ _ (lie_rows (b := w1.heap.size + 1 + 1) (xs := [⟨.slice (some ⟨w1.heap.size + 1, 0, none⟩) 1 1, ⟨[2], 3, 1⟩⟩]) (by (repeat (first | (refine blk_at _ _ ?_; simp; done) | (refine Blk.old ?_ _)))) rfl rfl rfl (fun x hx => by simp at hx; subst hx; exact lie_row (b := w1.heap.size + 1) [2] 3 1 (by (repeat (first | (refine blk_at _ _ ?_; simp; done) | (refine Blk.old ?_ _)))) rfl (by decide) (by decide) (by decide) (by decide) 1 rfl) (by simp [maxLen])) (lie_fracs (b := w1.heap.size + 1 + 1 + 1) (by (repeat (first | (refine blk_at _ _ ?_; simp; done) | (refine Blk.old ?_ _)))) rfl rfl toldHalf_i64 (by simp [toldHalf, maxLen]))).out).mono ?_
  rintro e w2 ⟨rfl, hk⟩
  have Bb8 : Blk w2 (w1.heap.size) #[.int .i64 f1, .int .i64 f2] := Blk.keep (by (repeat (first | (with_reducible assumption) | (refine blk_at _ _ ?_; simp; done) | (refine Blk.old ?_ _)))) hk
  have k2 : Keep NoS w1 w2 := Keep.trans (by (repeat' (first | (with_reducible assumption) | (with_reducible exact HK.out) | (with_reducible exact Keep.refl _ _) | (with_reducible refine Keep.alloc ?_ _) | (with_reducible refine Keep.setCell ?_ _ (fun h => absurd h (by omega))) | (with_reducible refine Keep.drewN ?_ _) | (with_reducible refine Keep.drew ?_)))) hk fun _ _ _ h => h
  have K2 := Lib.hid (K1.out.both k2)
  have Hb8 := Lib.hid Bb8
  clear hk Bb8 k2 CF
  generalize w1.heap.size = b8 at *
  obtain ⟨b80, b81, _, _, b8l⟩ := Hb8.out.two
  have b8n0 : ¬ b8 = w2.heap.size := by omega
  go_wp2_with fail
  refine ((CE _ (K2.out.alloc _)).out).mono ?_
  rintro e w3 ⟨rfl, hk⟩
  have Bb10 : Blk w3 (w2.heap.size) #[.int .i64 0, .int .i64 0] := Blk.keep (by (repeat (first | (with_reducible assumption) | (refine blk_at _ _ ?_; simp; done) | (refine Blk.old ?_ _)))) hk
  have k3 : Keep NoS w2 w3 := Keep.trans (by (repeat' (first | (with_reducible assumption) | (with_reducible exact HK.out) | (with_reducible exact Keep.refl _ _) | (with_reducible refine Keep.alloc ?_ _) | (with_reducible refine Keep.setCell ?_ _ (fun h => absurd h (by omega))) | (with_reducible refine Keep.drewN ?_ _) | (with_reducible refine Keep.drew ?_)))) hk fun _ _ _ h => h
  have K3 := Lib.hid (K2.out.both k3)
  have Hb8 := Lib.hid (Hb8.out.keep k3)
  have Hb10 := Lib.hid Bb10
  clear b80 b81 b8l b8n0 hk Bb10 k3 CE
  generalize w2.heap.size = b10 at *
  by_cases hc : c1 = 0
  case neg =>
    have hlf := HE.out hc
    cases hlf
    obtain rfl : tb = false := HZ.out hc
    have e1 : (f1 == 0) = false := by rw [beq_eq_false_iff_ne]; exact hc
    have e2 : (f1 != 0) = true := by rw [bne_iff_ne]; exact hc
    obtain ⟨b80, b81, _, _, b8l⟩ := Hb8.out.two
    have n8 : ¬ b8 = w3.heap.size := by omega
    have HK := K3
    clear HE HZ HM HO CM CL hc
    go_wp2
    go_ret
    exact ⟨by simp, by (repeat' (first | (with_reducible assumption) | (with_reducible exact HK.out) | (with_reducible exact Keep.refl _ _) | (with_reducible refine Keep.alloc ?_ _) | (with_reducible refine Keep.setCell ?_ _ (fun h => absurd h (by omega))) | (with_reducible refine Keep.drewN ?_ _) | (with_reducible refine Keep.drew ?_)))⟩
  case pos =>
    subst hc
    obtain rfl := HM.out rfl
    have hlt8 := Hb8.out.lt
    have HW11 : w.heap.size ≤ w3.heap.size := K3.out.size
    obtain ⟨b80, b81, _, _, b8l⟩ := Hb8.out.two
    obtain ⟨b100, b101, _, _, b10l⟩ := Hb10.out.two
    have b8n0 : ¬ b8 = w3.heap.size := by omega
    have b10n0 : ¬ b10 = w3.heap.size := by omega
    go_wp2_with fail
    refine ((CM _ (K3.out.alloc _)).out).mono ?_
    rintro e w4 ⟨rfl, hk⟩
    have Bb11 : Blk w4 (w3.heap.size) #[.int .i64 0, .int .i64 c2] := Blk.keep (by (repeat (first | (with_reducible assumption) | (refine blk_at _ _ ?_; simp; done) | (refine Blk.old ?_ _)))) hk
    have k4 : Keep NoS w3 w4 := Keep.trans (by (repeat' (first | (with_reducible assumption) | (with_reducible exact HK.out) | (with_reducible exact Keep.refl _ _) | (with_reducible refine Keep.alloc ?_ _) | (with_reducible refine Keep.setCell ?_ _ (fun h => absurd h (by omega))) | (with_reducible refine Keep.drewN ?_ _) | (with_reducible refine Keep.drew ?_)))) hk fun _ _ _ h => h
    have K4 := Lib.hid (K3.out.both k4)
    have Hb8 := Lib.hid (Hb8.out.keep k4)
    have Hb10 := Lib.hid (Hb10.out.keep k4)
    have Hb11 := Lib.hid Bb11
    clear b80 b81 b8l b100 b101 b10l b8n0 b10n0 hk Bb11 k4 CM HE HM
    generalize w3.heap.size = b11 at *
    obtain ⟨b80, b81, _, _, b8l⟩ := Hb8.out.two
    obtain ⟨b110, b111, _, _, b11l⟩ := Hb11.out.two
    have n811 : b8 ≠ b11 := by omega
    have HS11 : w.heap.size ≤ b11 := HW11
    have Hb8' := Lib.hid (Hb8.out.other2 n811 (.int .i64 f1) (.int .i64 f2))
    have Hb11' := Lib.hid (Hb11.out.set2 (.int .i64 f1) (.int .i64 f2))
    have K5 := Lib.hid (keep_set2 K4.out HS11 (.int .i64 f1) (.int .i64 f2))
    by_cases hf : f1 = 0
    case neg =>
      obtain rfl : tb = false := HZ.out hf
      have e1 : (f1 != 0) = true := by rw [bne_iff_ne]; exact hf
      obtain ⟨q0, q1, q2, q3, ql⟩ := Hb11.out.two
      clear HZ HO CL hf
      go_wp2
      go_ret
      exact ⟨by simp, K5.out⟩
    case pos =>
      obtain ⟨hlf, N, rfl, hN, h40, hok, hlen, hfr, hlb⟩ := HO.out hf
      cases hlf
      subst hlb
      have CL := fun w' (k : Keep NoS w w') => CL w' k N hok h40 hN hlen hfr
      obtain ⟨q0, q1, q2, q3, ql⟩ := Hb11.out.two
      generalize lt1 rows (times.map Fq.q) N = lb at *
      clear HZ HO hf hok hlen hfr
      go_wp2_with fail
      refine (CL _ K5.out).out.mono ?_
      rintro e w6 ⟨rfl, hk6⟩
      have K6 := Lib.hid (K5.out.both hk6)
      have Hb8' := Lib.hid (Hb8'.out.keep hk6)
      obtain ⟨s0, s1, _, _, sl⟩ := Hb8'.out.two
      clear hk6 CL
      cases lb
      · go_wp2
        go_ret
        exact ⟨rfl, K6.out⟩
      · go_wp2
        go_ret
        exact ⟨rfl, K6.out⟩
end Go.Proofs.Ytihcbmkjfacooaa
