/- The law FarkasFinds: its walk. -/
import Derived.Test.YtamjmcdlddocgaaSpH
import Derived.Test.YtamjmcdlddocgaaFkE
import Derived.Test.YtamjmcdlddocgaaLies
namespace Go.Proofs.Ytamjmcdlddocgaa
open Go.ChangeShapes Go.WideShapes Go.RowKit
set_option linter.unusedVariables false
set_option linter.unusedSimpArgs false

def fndRw : List Rw := [⟨[1], 1, 2⟩, ⟨[-1], 1, -3⟩]
def fndFr : List Fq := [⟨1, 1⟩, ⟨1, 1⟩]
theorem fndRw_fact : farkF fndRw 1 fndFr = (0, 0) ∧ fkB fndRw fndFr 1 = true := by decide +kernel
theorem fndFr_i64 : ∀ g ∈ fndFr, I64 g.N ∧ I64 g.D := by unfold fndFr I64; simp
theorem fnd_fracs {w : World} {b : Nat} {l : List Fq} {cs : Array Value} {n : Nat} (h : Blk w b cs) (hc : cs = (l.flatMap fqC).toArray) (hn : n = l.length) (hx : ∀ g ∈ l, I64 g.N ∧ I64 g.D) (hl : l.length ≤ maxLen) : IsFracs w (.slice (some ⟨b, 0, none⟩) n n) l := by
  subst hn hc
  refine ⟨_, _, rfl, Nat.le_refl _, by exact hl, hx, fun hne => ⟨b, 0, rfl, h.lt, fun i x hi => ?_⟩⟩
  have h0 := flat_get fqC_len l i x hi 0 (by omega)
  have h1 := flat_get fqC_len l i x hi 1 (by omega)
  rw [h.cell, h.cell, Nat.zero_add]
  simp at h0 h1 ⊢
  exact ⟨h0, h1⟩
set_option maxRecDepth 100000 in
set_option maxHeartbeats 8000000 in
theorem fndFark_any (w : World) : Calls Try.prog 17 #[] w fun e w' => e = .returned (.bool true) ∧ Keep NoS w w' := by
  have CT := fun w' v vt (h : IsRows w' v fndRw) (ht : IsFracs w' vt fndFr) => Lib.hid (takeFk_any w' v fndRw 1 vt fndFr h (by unfold I64; omega) ht)
  rw [fndRw_fact.1, fndRw_fact.2] at CT
  unfold fV at CT
  simp only at CT
  go_enter Try.func17, Try.ntmps17
  go_wp2_with fail
  refine (CT _ _ _ (lie_rows (b := w.heap.size + 1 + 1 + 1) (xs := [⟨.slice (some ⟨w.heap.size + 1, 0, none⟩) 1 1, ⟨[1], 1, 2⟩⟩, ⟨.slice (some ⟨w.heap.size + 1 + 1, 0, none⟩) 1 1, ⟨[-1], 1, -3⟩⟩]) (by (repeat (first | (refine blk_at _ _ ?_; simp; done) | (refine Blk.old ?_ _)))) rfl rfl rfl ?_ (by simp [maxLen])) (fnd_fracs (b := w.heap.size + 1 + 1 + 1 + 1) (by (repeat (first | (refine blk_at _ _ ?_; simp; done) | (refine Blk.old ?_ _)))) rfl rfl fndFr_i64 (by simp [fndFr, maxLen]))).out.mono ?_
  · intro x hx
    simp at hx
    rcases hx with rfl | rfl
    · exact lie_row (b := w.heap.size + 1) [1] 1 2 (by (repeat (first | (refine blk_at _ _ ?_; simp; done) | (refine Blk.old ?_ _)))) rfl (by decide) (by decide) (by decide) (by decide) 1 rfl
    · exact lie_row (b := w.heap.size + 1 + 1) [-1] 1 (-3) (by (repeat (first | (refine blk_at _ _ ?_; simp; done) | (refine Blk.old ?_ _)))) rfl (by decide) (by decide) (by decide) (by decide) 1 rfl
  rintro e w1 ⟨rfl, hk1⟩
  have K1 : Hid (Keep NoS w w1) := Lib.hid (Keep.both (by (repeat' (with_reducible first | assumption | exact HK.out | exact keR | refine keA ?_ | refine keS ?_ fun h => absurd h (by omega) | refine keN ?_ | refine keD ?_))) hk1)
  have HK := K1
  clear hk1
  go_wp2
  go_ret
  exact ⟨rfl, by (repeat' (with_reducible first | assumption | exact HK.out | exact keR | refine keA ?_ | refine keS ?_ fun h => absurd h (by omega) | refine keN ?_ | refine keD ?_))⟩

set_option maxRecDepth 100000 in
set_option maxHeartbeats 16000000 in
theorem finds_bad (w : World) (oa : Option Addr) (m ca : Nat) (n : Int) (ox : Option Addr) (mx cx : Nat) (c1 c2 : Int) (hc : c1 ≠ 0)
    (CD : ∀ w', Keep NoS w w' → Hid (Calls Try.prog 12 #[.slice oa m ca, .int .i64 n, .int .i64 2000] w' fun e w'' => ∃ u t, e = .returned (.tuple #[.int .i64 0, u, t, .agg #[.int .i64 c1, .int .i64 c2]]) ∧ IsFracs w'' u [] ∧ IsFracs w'' t [] ∧ Keep NoS w' w'')) :
    Calls Try.prog 6 #[.slice oa m ca, .int .i64 n, .slice ox mx cx] w fun e w' => e = .returned (.bool true) ∧ Keep NoS w w' := by
  go_enter Try.func6, Try.ntmps6
  go_wp2_with fail
  refine (fndFark_any _).mono ?_
  rintro e w1 ⟨rfl, hk⟩
  have K1 : Hid (Keep NoS w w1) := Lib.hid (Keep.both (by (repeat' (with_reducible first | assumption | exact HK.out | exact keR | refine keA ?_ | refine keS ?_ fun h => absurd h (by omega) | refine keN ?_ | refine keD ?_))) hk)
  clear hk
  go_wp2_with fail
  refine ((CD _ K1.out).out).mono ?_
  rintro e w2 ⟨u, t, rfl, hu, ht, hk⟩
  have k2 : Keep NoS w1 w2 := Keep.trans (by (repeat' (with_reducible first | assumption | exact HK.out | exact keR | refine keA ?_ | refine keS ?_ fun h => absurd h (by omega) | refine keN ?_ | refine keD ?_))) hk fun _ _ _ h => h
  have K2 := Lib.hid (K1.out.both k2)
  obtain ⟨ou, cu, rfl, _, _⟩ := hu.len
  obtain ⟨ot, ct, rfl, _, _⟩ := ht.len
  clear hk k2 hu ht CD
  have e2 : (c1 != 0) = true := by rw [bne_iff_ne]; exact hc
  have ka : Keep NoS w2 (w2.alloc (.cells #[.int .i64 c1, .int .i64 c2] 24)) := (Keep.refl _ _).alloc _
  have K3 := Lib.hid (K2.out.both ka)
  go_wp2
  go_ret
  exact ⟨rfl, K3.out⟩
set_option maxRecDepth 100000 in
set_option maxHeartbeats 16000000 in
theorem finds_no (w : World) (oa : Option Addr) (m ca : Nat) (n : Int) (ox : Option Addr) (mx cx : Nat) (tm : List Fq) (CT : ∀ w' vt, Keep NoS w w' → IsFracs w' vt tm → Hid (Calls Try.prog 18 #[.slice oa m ca, .int .i64 n, vt] w' fun e w'' => e = .returned (.tuple #[.bool true, .agg #[.int .i64 0, .int .i64 0]]) ∧ Keep NoS w' w''))
    (CD : ∀ w', Keep NoS w w' → Hid (Calls Try.prog 12 #[.slice oa m ca, .int .i64 n, .int .i64 2000] w' fun e w'' => ∃ u t, e = .returned (.tuple #[.int .i64 2, u, t, .agg #[.int .i64 0, .int .i64 0]]) ∧ IsFracs w'' u [] ∧ IsFracs w'' t tm ∧ Keep NoS w' w'')) :
    Calls Try.prog 6 #[.slice oa m ca, .int .i64 n, .slice ox mx cx] w fun e w' => e = .returned (.bool true) ∧ Keep NoS w w' := by
  go_enter Try.func6, Try.ntmps6
  go_wp2_with fail
  refine (fndFark_any _).mono ?_
  rintro e w1 ⟨rfl, hk⟩
  have K1 : Hid (Keep NoS w w1) := Lib.hid (Keep.both (by (repeat' (with_reducible first | assumption | exact HK.out | exact keR | refine keA ?_ | refine keS ?_ fun h => absurd h (by omega) | refine keN ?_ | refine keD ?_))) hk)
  clear hk
  go_wp2_with fail
  refine ((CD _ K1.out).out).mono ?_
  rintro e w2 ⟨u, t, rfl, hu, ht, hk⟩
  have k2 : Keep NoS w1 w2 := Keep.trans (by (repeat' (with_reducible first | assumption | exact HK.out | exact keR | refine keA ?_ | refine keS ?_ fun h => absurd h (by omega) | refine keN ?_ | refine keD ?_))) hk fun _ _ _ h => h
  have K2 := Lib.hid (K1.out.both k2)
  obtain ⟨ou, cu, rfl, _, _⟩ := hu.len
  obtain ⟨ot, ct, rfl, _, _⟩ := ht.len
  have HT := Lib.hid ht
  clear hk k2 hu ht CD
  go_wp2_with fail
  refine (CT _ _ (K2.out.alloc _) (HT.out.keep ((Keep.refl _ _).alloc _))).out.mono ?_
  rintro e w3 ⟨rfl, hk⟩
  have K3 := Lib.hid ((K2.out.alloc (.cells #[.int .i64 0, .int .i64 0] 24)).both hk)
  have ka : Keep NoS w3 (w3.alloc (.cells #[.int .i64 0, .int .i64 0] 24)) := (Keep.refl _ _).alloc _
  have K4 := Lib.hid (K3.out.both ka)
  go_wp2
  go_ret
  exact ⟨rfl, K4.out⟩
set_option maxRecDepth 100000 in
set_option maxHeartbeats 16000000 in
theorem finds_yes (w : World) (oa : Option Addr) (m ca : Nat) (n : Int) (ox : Option Addr) (mx cx : Nat) (tb : Bool) (f1 f2 : Int) (pt : List Fq) (hb : tb = false) (CT : ∀ w', Keep NoS w w' → Hid (Calls Try.prog 18 #[.slice oa m ca, .int .i64 n, .slice ox mx cx] w' fun e w'' => e = .returned (.tuple #[.bool tb, .agg #[.int .i64 f1, .int .i64 f2]]) ∧ Keep NoS w' w''))
    (CD : ∀ w', Keep NoS w w' → Hid (Calls Try.prog 12 #[.slice oa m ca, .int .i64 n, .int .i64 2000] w' fun e w'' => ∃ u t, e = .returned (.tuple #[.int .i64 1, u, t, .agg #[.int .i64 0, .int .i64 0]]) ∧ IsFracs w'' u pt ∧ IsFracs w'' t [] ∧ Keep NoS w' w'')) :
    Calls Try.prog 6 #[.slice oa m ca, .int .i64 n, .slice ox mx cx] w fun e w' => e = .returned (.bool true) ∧ Keep NoS w w' := by
  go_enter Try.func6, Try.ntmps6
  go_wp2_with fail
  refine (fndFark_any _).mono ?_
  rintro e w1 ⟨rfl, hk⟩
  have K1 : Hid (Keep NoS w w1) := Lib.hid (Keep.both (by (repeat' (with_reducible first | assumption | exact HK.out | exact keR | refine keA ?_ | refine keS ?_ fun h => absurd h (by omega) | refine keN ?_ | refine keD ?_))) hk)
  clear hk
  go_wp2_with fail
  refine ((CD _ K1.out).out).mono ?_
  rintro e w2 ⟨u, t, rfl, hu, ht, hk⟩
  have k2 : Keep NoS w1 w2 := Keep.trans (by (repeat' (with_reducible first | assumption | exact HK.out | exact keR | refine keA ?_ | refine keS ?_ fun h => absurd h (by omega) | refine keN ?_ | refine keD ?_))) hk fun _ _ _ h => h
  have K2 := Lib.hid (K1.out.both k2)
  obtain ⟨ou, cu, rfl, _, _⟩ := hu.len
  obtain ⟨ot, ct, rfl, _, _⟩ := ht.len
  clear hk k2 hu ht CD
  go_wp2_with fail
  refine (CT _ (K2.out.alloc _)).out.mono ?_
  rintro e w3 ⟨rfl, hk⟩
  have K3 := Lib.hid ((K2.out.alloc (.cells #[.int .i64 0, .int .i64 0] 24)).both hk)
  have ka : Keep NoS w3 (w3.alloc (.cells #[.int .i64 f1, .int .i64 f2] 24)) := (Keep.refl _ _).alloc _
  have K4 := Lib.hid (K3.out.both ka)
  clear CT hk ka
  subst hb
  by_cases hf : f1 = 0
  case pos =>
    subst hf
    go_wp2
    go_ret
    exact ⟨rfl, K4.out⟩
  case neg =>
    have e2 : (f1 != 0) = true := by rw [bne_iff_ne]; exact hf
    go_wp2
    go_ret
    exact ⟨rfl, K4.out⟩
set_option maxRecDepth 100000 in
set_option maxHeartbeats 16000000 in
theorem finds_hungry (w : World) (oa : Option Addr) (m ca : Nat) (n : Int) (ox : Option Addr) (mx cx : Nat) (tb : Bool) (f1 f2 : Int) (CT : ∀ w', Keep NoS w w' → Hid (Calls Try.prog 18 #[.slice oa m ca, .int .i64 n, .slice ox mx cx] w' fun e w'' => e = .returned (.tuple #[.bool tb, .agg #[.int .i64 f1, .int .i64 f2]]) ∧ Keep NoS w' w''))
    (CD : ∀ w', Keep NoS w w' → Hid (Calls Try.prog 12 #[.slice oa m ca, .int .i64 n, .int .i64 2000] w' fun e w'' => ∃ u t, e = .returned (.tuple #[.int .i64 3, u, t, .agg #[.int .i64 0, .int .i64 0]]) ∧ IsFracs w'' u [] ∧ IsFracs w'' t [] ∧ Keep NoS w' w'')) :
    Calls Try.prog 6 #[.slice oa m ca, .int .i64 n, .slice ox mx cx] w fun e w' => e = .returned (.bool true) ∧ Keep NoS w w' := by
  go_enter Try.func6, Try.ntmps6
  go_wp2_with fail
  refine (fndFark_any _).mono ?_
  rintro e w1 ⟨rfl, hk⟩
  have K1 : Hid (Keep NoS w w1) := Lib.hid (Keep.both (by (repeat' (with_reducible first | assumption | exact HK.out | exact keR | refine keA ?_ | refine keS ?_ fun h => absurd h (by omega) | refine keN ?_ | refine keD ?_))) hk)
  clear hk
  go_wp2_with fail
  refine ((CD _ K1.out).out).mono ?_
  rintro e w2 ⟨u, t, rfl, hu, ht, hk⟩
  have k2 : Keep NoS w1 w2 := Keep.trans (by (repeat' (with_reducible first | assumption | exact HK.out | exact keR | refine keA ?_ | refine keS ?_ fun h => absurd h (by omega) | refine keN ?_ | refine keD ?_))) hk fun _ _ _ h => h
  have K2 := Lib.hid (K1.out.both k2)
  obtain ⟨ou, cu, rfl, _, _⟩ := hu.len
  obtain ⟨ot, ct, rfl, _, _⟩ := ht.len
  clear hk k2 hu ht CD
  go_wp2_with fail
  refine (CT _ (K2.out.alloc _)).out.mono ?_
  rintro e w3 ⟨rfl, hk⟩
  have K3 := Lib.hid ((K2.out.alloc (.cells #[.int .i64 0, .int .i64 0] 24)).both hk)
  have ka : Keep NoS w3 (w3.alloc (.cells #[.int .i64 f1, .int .i64 f2] 24)) := (Keep.refl _ _).alloc _
  have K4 := Lib.hid (K3.out.both ka)
  clear CT hk ka
  go_wp2
  go_ret
  exact ⟨rfl, K4.out⟩
theorem farkasFinds_walk (w : World) (v : Value) (rows : List Rw) (n : Int) (vt : Value) (times : List Fq) (h : IsRows w v rows) (hn : I64 n) (ht : IsFracs w vt times) :
    Calls Try.prog 6 #[v, .int .i64 n, vt] w fun e w' => e = .returned (.bool true) ∧ Below w.heap.size w w' := by
  suffices hk : Calls Try.prog 6 #[v, .int .i64 n, vt] w fun e w' => e = .returned (.bool true) ∧ Keep NoS w w' from hk.mono fun e w' ⟨h1, h2⟩ => ⟨h1, h2.below (Nat.le_refl _) fun _ _ h => h.elim⟩
  have CD := fun w' (k : Keep NoS w w') => Lib.hid (spDo_any w' v rows n 2000 (h.keep k) hn (by unfold I64; omega))
  have CT := fun w' (k : Keep NoS w w') => Lib.hid (takeFk_any w' v rows n vt times (h.keep k) hn (ht.keep k))
  have CU := fun (tm : List Fq) w' vt (k : Keep NoS w w') (ht : IsFracs w' vt tm) => Lib.hid (takeFk_any w' v rows n vt tm (h.keep k) hn ht)
  obtain ⟨oa, ca, rfl, _, _⟩ := h.len
  obtain ⟨ox, cx, rfl, _, _⟩ := ht.len
  unfold fV at CD CT CU
  rcases doR_cases rows n 2000 with ⟨h1, h2⟩ | ⟨h1, h2, h3⟩ | ⟨h1, ⟨h2, h3⟩, h4 | h4 | ⟨pt, h4, h5⟩ | ⟨tm, h4, h5⟩⟩
  · rw [h2] at CD
    exact finds_bad w oa _ ca n ox _ cx _ _ h1 CD
  · omega
  · rw [h4] at CD
    exact finds_bad w oa _ ca n ox _ cx 10 0 (by decide) CD
  · rw [h4] at CD
    exact finds_hungry w oa _ ca n ox _ cx _ _ _ CT CD
  · rw [h4] at CD
    exact finds_yes w oa _ ca n ox _ cx _ _ _ pt (yes_take (by rw [h1]) h5 times) CT CD
  · rw [h4] at CD
    obtain ⟨e1, e2⟩ := no_take (by rw [h1]) h5
    have CU := CU tm
    rw [e1, e2] at CU
    exact finds_no w oa _ ca n ox _ cx tm CU CD
end Go.Proofs.Ytamjmcdlddocgaa
