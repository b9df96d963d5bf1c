/- The law SimplexTrue: its walk. -/
import Derived.Test.YtamjmcdlddocgaaGreatSpF
import Derived.Test.YtamjmcdlddocgaaGreatSpH
import Derived.Test.YtamjmcdlddocgaaGreatFkG
import Derived.Test.YtamjmcdlddocgaaGreatRfAA
namespace Go.Proofs.YtamjmcdlddocgaaGreat
open Go.ChangeShapes Go.WideShapes Go.RowKit
set_option linter.unusedVariables false
set_option linter.unusedSimpArgs false
theorem allHB_yes {rows : List Rw} {N : Nat} {pt : List Fq} (hok : ∀ r ∈ rows, RowOK r N) (h : YesOf rows N pt) : allHB rows pt = true := by
 unfold allHB
 rw [List.all_eq_true]
 intro r hr
 have h1 : (ptF r pt).1 = 0 := by
  unfold ptF
  rw [h.len, chk_of (hok r hr), if_neg (by simp), bad_of h.ok]
 have h2 := yes_holdsB hok h r hr
 unfold rowHB
 rw [h1, h2]
 rfl
set_option maxRecDepth 100000 in
set_option maxHeartbeats 16000000 in
theorem true_bad (w : World) (oa : Option Addr) (m ca : Nat) (n fuel : Int) (c1 c2 : Int) (hc : c1 ≠ 0)
  (CD : ∀ w', Keep NoS w w' → Hid (Calls Tryz.prog 11 #[.slice oa m ca, .int .i64 n, .int .i64 fuel] w' fun e w'' => ∃ u t, e = .returned (.tuple #[.int .i64 0, u, t, .agg #[.int .i64 c1, .int .i64 c2]]) ∧ IsFracs w'' u [] ∧ IsFracs w'' t [] ∧ Keep NoS w' w'')) :
  Calls Tryz.prog 4 #[.slice oa m ca, .int .i64 n, .int .i64 fuel] w fun e w' => e = .returned (.bool true) ∧ Keep NoS w w' := by
 go_enter Tryz.func4, Tryz.ntmps4
 go_wp2_with fail
 refine (simplexFact_any _).mono ?_
 rintro e w1 ⟨rfl, hk⟩
 have K1 : Hid (Keep NoS w w1) := Lib.hid (Keep.both (by (repeat' (with_reducible first | assumption | exact HK.out | exact keR | refine keA ?_ | refine keS ?_ fun h => absurd h (by omega) | refine keN ?_ | refine keD ?_))) hk)
 clear hk
 go_wp2_with fail
 refine ((CD _ K1.out).out).mono ?_
 rintro e w2 ⟨u, t, rfl, hu, ht, hk⟩
 have k2 : Keep NoS w1 w2 := Keep.trans (by (repeat' (with_reducible first | assumption | exact HK.out | exact keR | refine keA ?_ | refine keS ?_ fun h => absurd h (by omega) | refine keN ?_ | refine keD ?_))) hk fun _ _ _ h => h
 have K2 := Lib.hid (K1.out.both k2)
 obtain ⟨ou, cu, rfl, _, _⟩ := hu.len
 obtain ⟨ot, ct, rfl, _, _⟩ := ht.len
 clear hk k2 hu ht CD
 have e2 : (c1 != 0) = true := by rw [bne_iff_ne]; exact hc
 have ka : Keep NoS w2 (w2.alloc (.cells #[.int .i64 c1, .int .i64 c2] 26)) := (Keep.refl _ _).alloc _
 have K3 := Lib.hid (K2.out.both ka)
 go_wp2
 go_ret
 exact ⟨rfl, K3.out⟩
set_option maxRecDepth 100000 in
set_option maxHeartbeats 16000000 in
theorem true_hungry (w : World) (oa : Option Addr) (m ca : Nat) (n fuel : Int)  
  (CD : ∀ w', Keep NoS w w' → Hid (Calls Tryz.prog 11 #[.slice oa m ca, .int .i64 n, .int .i64 fuel] w' fun e w'' => ∃ u t, e = .returned (.tuple #[.int .i64 3, u, t, .agg #[.int .i64 0, .int .i64 0]]) ∧ IsFracs w'' u [] ∧ IsFracs w'' t [] ∧ Keep NoS w' w'')) :
  Calls Tryz.prog 4 #[.slice oa m ca, .int .i64 n, .int .i64 fuel] w fun e w' => e = .returned (.bool true) ∧ Keep NoS w w' := by
 go_enter Tryz.func4, Tryz.ntmps4
 go_wp2_with fail
 refine (simplexFact_any _).mono ?_
 rintro e w1 ⟨rfl, hk⟩
 have K1 : Hid (Keep NoS w w1) := Lib.hid (Keep.both (by (repeat' (with_reducible first | assumption | exact HK.out | exact keR | refine keA ?_ | refine keS ?_ fun h => absurd h (by omega) | refine keN ?_ | refine keD ?_))) hk)
 clear hk
 go_wp2_with fail
 refine ((CD _ K1.out).out).mono ?_
 rintro e w2 ⟨u, t, rfl, hu, ht, hk⟩
 have k2 : Keep NoS w1 w2 := Keep.trans (by (repeat' (with_reducible first | assumption | exact HK.out | exact keR | refine keA ?_ | refine keS ?_ fun h => absurd h (by omega) | refine keN ?_ | refine keD ?_))) hk fun _ _ _ h => h
 have K2 := Lib.hid (K1.out.both k2)
 obtain ⟨ou, cu, rfl, _, _⟩ := hu.len
 obtain ⟨ot, ct, rfl, _, _⟩ := ht.len
 clear hk k2 hu ht CD
 have ka : Keep NoS w2 (w2.alloc (.cells #[.int .i64 0, .int .i64 0] 26)) := (Keep.refl _ _).alloc _
 have K3 := Lib.hid (K2.out.both ka)
 go_wp2
 go_ret
 exact ⟨rfl, K3.out⟩
set_option maxRecDepth 100000 in
set_option maxHeartbeats 16000000 in
theorem true_yes (w : World) (oa : Option Addr) (m ca : Nat) (n fuel : Int) (pt : List Fq) (hl : (pt.length : Int) = n) (CA : ∀ w' vn, Keep NoS w w' → IsFracs w' vn pt → Hid (Calls Tryz.prog 12 #[.slice oa m ca, vn] w' fun e w'' => e = .returned (.bool true) ∧ Keep NoS w' w''))
  (CD : ∀ w', Keep NoS w w' → Hid (Calls Tryz.prog 11 #[.slice oa m ca, .int .i64 n, .int .i64 fuel] w' fun e w'' => ∃ u t, e = .returned (.tuple #[.int .i64 1, u, t, .agg #[.int .i64 0, .int .i64 0]]) ∧ IsFracs w'' u pt ∧ IsFracs w'' t [] ∧ Keep NoS w' w'')) :
  Calls Tryz.prog 4 #[.slice oa m ca, .int .i64 n, .int .i64 fuel] w fun e w' => e = .returned (.bool true) ∧ Keep NoS w w' := by
 subst hl
 go_enter Tryz.func4, Tryz.ntmps4
 go_wp2_with fail
 refine (simplexFact_any _).mono ?_
 rintro e w1 ⟨rfl, hk⟩
 have K1 : Hid (Keep NoS w w1) := Lib.hid (Keep.both (by (repeat' (with_reducible first | assumption | exact HK.out | exact keR | refine keA ?_ | refine keS ?_ fun h => absurd h (by omega) | refine keN ?_ | refine keD ?_))) hk)
 clear hk
 go_wp2_with fail
 refine ((CD _ K1.out).out).mono ?_
 rintro e w2 ⟨u, t, rfl, hu, ht, hk⟩
 have k2 : Keep NoS w1 w2 := Keep.trans (by (repeat' (with_reducible first | assumption | exact HK.out | exact keR | refine keA ?_ | refine keS ?_ fun h => absurd h (by omega) | refine keN ?_ | refine keD ?_))) hk fun _ _ _ h => h
 have K2 := Lib.hid (K1.out.both k2)
 obtain ⟨ou, cu, rfl, _, _⟩ := hu.len
 obtain ⟨ot, ct, rfl, _, _⟩ := ht.len
 have HU := Lib.hid hu
 clear hk k2 hu ht CD
 have ka : Keep NoS w2 (w2.alloc (.cells #[.int .i64 0, .int .i64 0] 26)) := (Keep.refl _ _).alloc _
 have K3 := Lib.hid (K2.out.both ka)
 go_wp2_with fail
 refine (CA _ _ (K2.out.alloc (.cells #[.int .i64 0, .int .i64 0] 26)) (HU.out.keep ((Keep.refl _ _).alloc (.cells #[.int .i64 0, .int .i64 0] 26)))).out.mono ?_
 rintro e w3 ⟨rfl, hk⟩
 have K4 := Lib.hid (K3.out.both hk)
 clear ka hk
 go_wp2
 go_ret
 exact ⟨rfl, K4.out⟩
set_option maxRecDepth 100000 in
set_option maxHeartbeats 16000000 in
theorem true_no (w : World) (oa : Option Addr) (m ca : Nat) (n fuel : Int) (tm : List Fq) (hl : tm.length = m) (CN : ∀ w' vn, Keep NoS w w' → IsFracs w' vn tm → Hid (Calls Tryz.prog 13 #[.slice oa m ca, .int .i64 n, vn] w' fun e w'' => e = .returned (.bool true) ∧ Keep NoS w' w''))
  (CD : ∀ w', Keep NoS w w' → Hid (Calls Tryz.prog 11 #[.slice oa m ca, .int .i64 n, .int .i64 fuel] w' fun e w'' => ∃ u t, e = .returned (.tuple #[.int .i64 2, u, t, .agg #[.int .i64 0, .int .i64 0]]) ∧ IsFracs w'' u [] ∧ IsFracs w'' t tm ∧ Keep NoS w' w'')) :
  Calls Tryz.prog 4 #[.slice oa m ca, .int .i64 n, .int .i64 fuel] w fun e w' => e = .returned (.bool true) ∧ Keep NoS w w' := by
 subst hl
 go_enter Tryz.func4, Tryz.ntmps4
 go_wp2_with fail
 refine (simplexFact_any _).mono ?_
 rintro e w1 ⟨rfl, hk⟩
 have K1 : Hid (Keep NoS w w1) := Lib.hid (Keep.both (by (repeat' (with_reducible first | assumption | exact HK.out | exact keR | refine keA ?_ | refine keS ?_ fun h => absurd h (by omega) | refine keN ?_ | refine keD ?_))) hk)
 clear hk
 go_wp2_with fail
 refine ((CD _ K1.out).out).mono ?_
 rintro e w2 ⟨u, t, rfl, hu, ht, hk⟩
 have k2 : Keep NoS w1 w2 := Keep.trans (by (repeat' (with_reducible first | assumption | exact HK.out | exact keR | refine keA ?_ | refine keS ?_ fun h => absurd h (by omega) | refine keN ?_ | refine keD ?_))) hk fun _ _ _ h => h
 have K2 := Lib.hid (K1.out.both k2)
 obtain ⟨ou, cu, rfl, _, _⟩ := hu.len
 obtain ⟨ot, ct, rfl, _, _⟩ := ht.len
 have HT := Lib.hid ht
 clear hk k2 hu ht CD
 have ka : Keep NoS w2 (w2.alloc (.cells #[.int .i64 0, .int .i64 0] 26)) := (Keep.refl _ _).alloc _
 have K3 := Lib.hid (K2.out.both ka)
 go_wp2_with fail
 refine (CN _ _ (K2.out.alloc (.cells #[.int .i64 0, .int .i64 0] 26)) (HT.out.keep ((Keep.refl _ _).alloc (.cells #[.int .i64 0, .int .i64 0] 26)))).out.mono ?_
 rintro e w3 ⟨rfl, hk⟩
 have K4 := Lib.hid (K3.out.both hk)
 clear ka hk
 go_wp2
 go_ret
 exact ⟨rfl, K4.out⟩
theorem simplexTrue_walk (w : World) (v : Value) (rows : List Rw) (n fuel : Int) (h : IsRows w v rows) (hn : I64 n) (hf : I64 fuel) :
  Calls Tryz.prog 4 #[v, .int .i64 n, .int .i64 fuel] w fun e w' => e = .returned (.bool true) ∧ Below w.heap.size w w' := by
 suffices hk : Calls Tryz.prog 4 #[v, .int .i64 n, .int .i64 fuel] w fun e w' => e = .returned (.bool true) ∧ Keep NoS w w' from hk.mono fun e w' ⟨h1, h2⟩ => ⟨h1, h2.below (Nat.le_refl _) fun _ _ h => h.elim⟩
 have CD := fun w' (k : Keep NoS w w') => Lib.hid (spDo_any w' v rows n fuel (h.keep k) hn hf)
 have CA := fun (pt : List Fq) w' vn (k : Keep NoS w w') (hp : IsFracs w' vn pt) => Lib.hid (allHold_any w' v rows vn pt (h.keep k) hp)
 have CN := fun (N : Nat) (tm : List Fq) hok h40 hN hlen hfr w' vn (k : Keep NoS w w') (hp : IsFracs w' vn tm) => Lib.hid (refToNone_any w' v rows N vn tm (h.keep k) hp hok h40 hN hlen hfr)
 obtain ⟨oa, ca, rfl, _, _⟩ := h.len
 unfold fV at CD
 rcases doR_cases rows n fuel with ⟨h1, h2⟩ | ⟨h1, h2, h3⟩ | ⟨h1, ⟨h2, h3⟩, h4 | h4 | ⟨pt, h4, h5⟩ | ⟨tm, h4, h5⟩⟩
 ·rw [h2] at CD
  exact true_bad w oa _ ca n fuel _ _ h1 CD
 ·rw [h3] at CD
  exact true_bad w oa _ ca n fuel 3 (-1) (by decide) CD
 ·rw [h4] at CD
  exact true_bad w oa _ ca n fuel 10 0 (by decide) CD
 ·rw [h4] at CD
  exact true_hungry w oa _ ca n fuel CD
 ·rw [h4] at CD
  obtain ⟨_, hn0, hn12, h40, hok⟩ := list_rows (l := rows) (n := n) (by rw [h1])
  have hok' : ∀ r ∈ rows, RowOK r (n.toNat : Nat) := by
   rw [show ((n.toNat : Nat) : Int) = n by omega]
   exact hok
  have CA := CA pt
  rw [allHB_yes hok' h5] at CA
  exact true_yes w oa _ ca n fuel pt (by rw [h5.len]; omega) CA CD
 ·rw [h4] at CD
  obtain ⟨_, hn0, hn12, h40, hok⟩ := list_rows (l := rows) (n := n) (by rw [h1])
  obtain ⟨N, rfl⟩ : ∃ N : Nat, n = (N : Int) := ⟨n.toNat, by omega⟩
  rw [Int.toNat_natCast] at h5
  have CN := CN N tm hok h40 (by omega) h5.len h5.ok
  rw [no_refB h5] at CN
  exact true_no w oa _ ca N fuel tm h5.len CN CD
end Go.Proofs.YtamjmcdlddocgaaGreat
