/- The reference's Fault, Fits; package row's gcd, empty; the reference's rowNone. -/
import Derived.Test.YtihcbmkjfacooaaRowB
namespace Go.Proofs.Ytihcbmkjfacooaa
open Go.ChangeShapes Go.WideShapes Go.RowKit
set_option linter.unusedVariables false
set_option linter.unusedSimpArgs false

set_option maxHeartbeats 2000000 in
theorem fault_any (c a : Int) (w : World) : Calls Try.prog 23 #[.int .i64 c, .int .i64 a] w fun e w' => e = .returned (fV (c, a)) ∧ Keep NoS w w' := by
  go_enter Try.func23, Try.ntmps23
  go_wp2
  refine bodyPost_ret (by simp [results, Try.results23, go_sem]; rfl) rfl ?_
  exact ⟨rfl, by (repeat' (first | (with_reducible assumption) | (with_reducible exact HK.out) | (with_reducible exact Keep.refl _ _) | (with_reducible refine Keep.alloc ?_ _) | (with_reducible refine Keep.setCell ?_ _ (fun h => absurd h (by omega))) | (with_reducible refine Keep.drewN ?_ _) | (with_reducible refine Keep.drew ?_)))⟩

set_option maxHeartbeats 2000000 in
theorem fits_any (x : Int) (w : World) : Calls Try.prog 49 #[.int .i64 x] w fun e w' => e = .returned (.bool (decide (fitI x))) ∧ w' = w := by
  by_cases h2 : x ≤ 1000000
  · by_cases h1 : -1000000 ≤ x
    · have e : decide (fitI x) = true := dec_t ⟨h1, h2⟩
      rw [e]
      have e1 : decide (-1000000 ≤ x) = true := dec_t h1
      have e2 : decide (x ≤ 1000000) = true := dec_t h2
      clear e h1 h2
      go_enter Try.func49, Try.ntmps49
      go_wp2
      go_ret
      exact ⟨rfl, rfl⟩
    · have e : decide (fitI x) = false := dec_f fun h => h1 h.1
      rw [e]
      have e1 : decide (-1000000 ≤ x) = false := dec_f h1
      have e2 : decide (x ≤ 1000000) = true := dec_t h2
      clear e h1 h2
      go_enter Try.func49, Try.ntmps49
      go_wp2
      go_ret
      exact ⟨rfl, rfl⟩
  · have e : decide (fitI x) = false := dec_f fun h => h2 h.2
    rw [e]
    have e2 : decide (x ≤ 1000000) = false := dec_f h2
    clear e h2
    go_enter Try.func49, Try.ntmps49
    go_wp2
    go_ret
    exact ⟨rfl, rfl⟩

theorem gcd_step (a b : Int) (hb : b ≠ 0) : Nat.gcd b.natAbs (a.tmod b).natAbs = Nat.gcd a.natAbs b.natAbs := by
  rw [Int.natAbs_tmod, Nat.gcd_comm a.natAbs, Nat.gcd_rec b.natAbs a.natAbs, Nat.gcd_comm]

set_option maxRecDepth 100000 in
set_option maxHeartbeats 4000000 in
theorem rowGcd_any (a b : Int) (w : World) (ha : -9000000 ≤ a ∧ a ≤ 9000000) (hb : -9000000 ≤ b ∧ b ≤ 9000000) :
    Calls Try.prog 55 #[.int .i64 a, .int .i64 b] w fun e w' => e = .returned (.int .i64 (Nat.gcd a.natAbs b.natAbs : Nat)) ∧ ∃ n, w' = w.drewN n := by
  obtain ⟨X, hX⟩ : ∃ X, a.natAbs = X := ⟨_, rfl⟩
  obtain ⟨Y, hY⟩ : ∃ Y, b.natAbs = Y := ⟨_, rfl⟩
  have HX := Lib.hid (And.intro hX hY)
  rw [hX, hY]
  go_enter Try.func55, Try.ntmps55
  go_wp2
  go_loopw [0, 1] (fun s t wr => ∃ p q : Int, s = .int .i64 p ∧ t = .int .i64 q ∧ (-9000000 ≤ p ∧ p ≤ 9000000) ∧ (-9000000 ≤ q ∧ q ≤ 9000000) ∧ Nat.gcd p.natAbs q.natAbs = Nat.gcd X Y ∧ ∃ n, wr = w.drewN n) (fun _ t _ => (intOf t).natAbs)
  case atStart => exact ⟨a, b, rfl, rfl, ha, hb, by rw [hX, hY], 0, rfl⟩
  case round =>
    obtain ⟨p, q, rfl, rfl, hp, hq, hg, n, rfl⟩ := hrel
    have HG := Lib.hid hg
    clear hg hX hY ha hb
    by_cases h0 : q = 0
    · subst h0
      have HV : Hid ((Nat.gcd X Y : Nat) = p.natAbs) := Lib.hid (by rw [← HG.out]; simp)
      by_cases hs : 0 ≤ p
      · go_wp2
        go_ret
        exact ⟨ret_int (by rw [HV.out]; omega), _, rfl⟩
      · go_wp2
        go_ret
        exact ⟨ret_int (by rw [HV.out]; omega), _, rfl⟩
    · have e0 : (q != 0) = true := by rw [bne_iff_ne]; exact h0
      have hm : (p.tmod q).natAbs < q.natAbs := by rw [Int.natAbs_tmod]; exact Nat.mod_lt _ (by omega)
      have HS := Lib.hid ((gcd_step p q h0).trans HG.out)
      go_wp2
      go_quiet (fail)
      go_wp2
      go_roundw
      case rel => exact ⟨q, p.tmod q, rfl, by simp, hq, by omega, HS.out, n + nq, by simp⟩
      case measure => exact hm

def lenV : Value → Nat
  | .slice _ n _ => n
  | _ => 0

/-- What a row of nothing is told to be. -/
def emptyTo (k t : Int) : Int := if k = 1 then (if t < 0 then -1 else 0) else if k = 2 then (if 0 < t then 1 else 0) else (if t = 0 then 0 else 1)
def emptyV (k t : Int) : Value := .agg #[.slice none 0 0, .int .i64 k, .int .i64 (emptyTo k t)]

set_option maxRecDepth 100000 in
set_option maxHeartbeats 8000000 in
theorem empty_any (k t : Int) (w : World) (hk : k = 1 ∨ k = 2 ∨ k = 3) : Calls Try.prog 54 #[.int .i64 k, .int .i64 t] w fun e w' => e = .returned (emptyV k t) ∧ Keep NoS w w' := by
  rcases hk with rfl | rfl | rfl
  · by_cases h : t < 0
    · have HE : Hid (emptyV 1 t = .agg #[.slice none 0 0, .int .i64 1, .int .i64 (-1)]) := Lib.hid (by simp [emptyV, emptyTo, h])
      have e1 : decide (t < 0) = true := dec_t h
      clear h
      go_enter Try.func54, Try.ntmps54
      go_wp2
      rw [HE.out]
      refine bodyPost_ret (by simp [results, Try.results54, go_sem]; rfl) rfl ?_
      exact ⟨rfl, by (repeat' (first | (with_reducible assumption) | (with_reducible exact HK.out) | (with_reducible exact Keep.refl _ _) | (with_reducible refine Keep.alloc ?_ _) | (with_reducible refine Keep.setCell ?_ _ (fun h => absurd h (by omega))) | (with_reducible refine Keep.drewN ?_ _) | (with_reducible refine Keep.drew ?_)))⟩
    · have HE : Hid (emptyV 1 t = .agg #[.slice none 0 0, .int .i64 1, .int .i64 0]) := Lib.hid (by simp [emptyV, emptyTo, h])
      have e1 : decide (t < 0) = false := dec_f h
      clear h
      go_enter Try.func54, Try.ntmps54
      go_wp2
      rw [HE.out]
      refine bodyPost_ret (by simp [results, Try.results54, go_sem]; rfl) rfl ?_
      exact ⟨rfl, by (repeat' (first | (with_reducible assumption) | (with_reducible exact HK.out) | (with_reducible exact Keep.refl _ _) | (with_reducible refine Keep.alloc ?_ _) | (with_reducible refine Keep.setCell ?_ _ (fun h => absurd h (by omega))) | (with_reducible refine Keep.drewN ?_ _) | (with_reducible refine Keep.drew ?_)))⟩
  · by_cases h : 0 < t
    · have HE : Hid (emptyV 2 t = .agg #[.slice none 0 0, .int .i64 2, .int .i64 1]) := Lib.hid (by simp [emptyV, emptyTo, h])
      have e1 : decide (0 < t) = true := dec_t h
      clear h
      go_enter Try.func54, Try.ntmps54
      go_wp2
      rw [HE.out]
      refine bodyPost_ret (by simp [results, Try.results54, go_sem]; rfl) rfl ?_
      exact ⟨rfl, by (repeat' (first | (with_reducible assumption) | (with_reducible exact HK.out) | (with_reducible exact Keep.refl _ _) | (with_reducible refine Keep.alloc ?_ _) | (with_reducible refine Keep.setCell ?_ _ (fun h => absurd h (by omega))) | (with_reducible refine Keep.drewN ?_ _) | (with_reducible refine Keep.drew ?_)))⟩
    · have HE : Hid (emptyV 2 t = .agg #[.slice none 0 0, .int .i64 2, .int .i64 0]) := Lib.hid (by simp [emptyV, emptyTo, h])
      have e1 : decide (0 < t) = false := dec_f h
      clear h
      go_enter Try.func54, Try.ntmps54
      go_wp2
      rw [HE.out]
      refine bodyPost_ret (by simp [results, Try.results54, go_sem]; rfl) rfl ?_
      exact ⟨rfl, by (repeat' (first | (with_reducible assumption) | (with_reducible exact HK.out) | (with_reducible exact Keep.refl _ _) | (with_reducible refine Keep.alloc ?_ _) | (with_reducible refine Keep.setCell ?_ _ (fun h => absurd h (by omega))) | (with_reducible refine Keep.drewN ?_ _) | (with_reducible refine Keep.drew ?_)))⟩
  · by_cases h : t = 0
    · have HE : Hid (emptyV 3 t = .agg #[.slice none 0 0, .int .i64 3, .int .i64 0]) := Lib.hid (by simp [emptyV, emptyTo, h])
      subst h
      go_enter Try.func54, Try.ntmps54
      go_wp2
      rw [HE.out]
      refine bodyPost_ret (by simp [results, Try.results54, go_sem]; rfl) rfl ?_
      exact ⟨rfl, by (repeat' (first | (with_reducible assumption) | (with_reducible exact HK.out) | (with_reducible exact Keep.refl _ _) | (with_reducible refine Keep.alloc ?_ _) | (with_reducible refine Keep.setCell ?_ _ (fun h => absurd h (by omega))) | (with_reducible refine Keep.drewN ?_ _) | (with_reducible refine Keep.drew ?_)))⟩
    · have HE : Hid (emptyV 3 t = .agg #[.slice none 0 0, .int .i64 3, .int .i64 1]) := Lib.hid (by simp [emptyV, emptyTo, h])
      have e1 : (t != 0) = true := by rw [bne_iff_ne]; exact h
      clear h
      go_enter Try.func54, Try.ntmps54
      go_wp2
      rw [HE.out]
      refine bodyPost_ret (by simp [results, Try.results54, go_sem]; rfl) rfl ?_
      exact ⟨rfl, by (repeat' (first | (with_reducible assumption) | (with_reducible exact HK.out) | (with_reducible exact Keep.refl _ _) | (with_reducible refine Keep.alloc ?_ _) | (with_reducible refine Keep.setCell ?_ _ (fun h => absurd h (by omega))) | (with_reducible refine Keep.drewN ?_ _) | (with_reducible refine Keep.drew ?_)))⟩

theorem empty1 (t : Int) : emptyTo 1 t = if t < 0 then -1 else 0 := by unfold emptyTo; rw [if_pos rfl]
theorem empty2 (t : Int) : emptyTo 2 t = if 0 < t then 1 else 0 := by unfold emptyTo; rw [if_neg (by decide), if_pos rfl]

set_option maxRecDepth 100000 in
set_option maxHeartbeats 8000000 in
theorem rowNone_any (k t : Int) (w : World) (hk : k = 1 ∨ k = 2 ∨ k = 3) : Calls Try.prog 59 #[.int .i64 k, .int .i64 t] w fun e w' => e = .returned (emptyV k t) ∧ Keep NoS w w' := by
  rcases hk with rfl | rfl | rfl
  · go_enter Try.func59, Try.ntmps59
    go_wp2
    all_goals
      refine bodyPost_ret (by simp [results, Try.results59, go_sem]; rfl) rfl ?_
      exact ⟨congrArg (fun z => Ending.returned (.agg #[.slice none 0 0, .int .i64 1, .int .i64 z])) (by rw [empty1]; split <;> omega), by (repeat' (first | (with_reducible assumption) | (with_reducible exact HK.out) | (with_reducible exact Keep.refl _ _) | (with_reducible refine Keep.alloc ?_ _) | (with_reducible refine Keep.setCell ?_ _ (fun h => absurd h (by omega))) | (with_reducible refine Keep.drewN ?_ _) | (with_reducible refine Keep.drew ?_)))⟩
  · go_enter Try.func59, Try.ntmps59
    go_wp2
    all_goals
      refine bodyPost_ret (by simp [results, Try.results59, go_sem]; rfl) rfl ?_
      exact ⟨congrArg (fun z => Ending.returned (.agg #[.slice none 0 0, .int .i64 2, .int .i64 z])) (by rw [empty2]; split <;> omega), by (repeat' (first | (with_reducible assumption) | (with_reducible exact HK.out) | (with_reducible exact Keep.refl _ _) | (with_reducible refine Keep.alloc ?_ _) | (with_reducible refine Keep.setCell ?_ _ (fun h => absurd h (by omega))) | (with_reducible refine Keep.drewN ?_ _) | (with_reducible refine Keep.drew ?_)))⟩
  · by_cases h : t = 0
    · subst h
      go_enter Try.func59, Try.ntmps59
      go_wp2
      refine bodyPost_ret (by simp [results, Try.results59, go_sem]; rfl) rfl ?_
      exact ⟨rfl, by (repeat' (first | (with_reducible assumption) | (with_reducible exact HK.out) | (with_reducible exact Keep.refl _ _) | (with_reducible refine Keep.alloc ?_ _) | (with_reducible refine Keep.setCell ?_ _ (fun h => absurd h (by omega))) | (with_reducible refine Keep.drewN ?_ _) | (with_reducible refine Keep.drew ?_)))⟩
    · have HE : Hid (emptyV 3 t = .agg #[.slice none 0 0, .int .i64 3, .int .i64 1]) := Lib.hid (by simp [emptyV, emptyTo, h])
      have e1 : (t != 0) = true := by rw [bne_iff_ne]; exact h
      clear h
      go_enter Try.func59, Try.ntmps59
      go_wp2
      rw [HE.out]
      refine bodyPost_ret (by simp [results, Try.results59, go_sem]; rfl) rfl ?_
      exact ⟨rfl, by (repeat' (first | (with_reducible assumption) | (with_reducible exact HK.out) | (with_reducible exact Keep.refl _ _) | (with_reducible refine Keep.alloc ?_ _) | (with_reducible refine Keep.setCell ?_ _ (fun h => absurd h (by omega))) | (with_reducible refine Keep.drewN ?_ _) | (with_reducible refine Keep.drew ?_)))⟩

/-- How many numbers are left without the noughts at the end. -/
def bareN (l : List Int) : Nat → Nat
  | 0 => 0
  | n + 1 => if l.getD n 0 = 0 then bareN l n else n + 1
def bareL (l : List Int) : List Int := l.take (bareN l l.length)

theorem bareN_le (l : List Int) : ∀ n, bareN l n ≤ n
  | 0 => Nat.le_refl _
  | n + 1 => by unfold bareN; split; exact Nat.le_succ_of_le (bareN_le l n); exact Nat.le_refl _

/-- A shorter view. -/
theorem IsInts.take {w : World} {oa : Option Addr} {n cap : Nat} {l : List Int} (h : IsInts w (.slice oa n cap) l) {k : Nat} (hk : k ≤ l.length) : IsInts w (.slice oa k cap) (l.take k) := by
  obtain ⟨oa', cap', hv, hm, hx, hc⟩ := h
  cases hv
  have hl : (l.take k).length = k := by rw [List.length_take]; omega
  refine ⟨oa, cap, by rw [hl], by omega, fun x hx' => hx x (List.mem_of_mem_take hx'), fun hne => ?_⟩
  obtain ⟨b, o, e, hb, hcell⟩ := hc (by rintro rfl; simp at hne)
  refine ⟨b, o, e, hb, fun i x hi => hcell i x ?_⟩
  have : i < k := by have := (List.getElem?_eq_some_iff.1 hi).1; omega
  rwa [List.getElem?_take, if_pos this] at hi

theorem IsInts.cellAt {w : World} {oa : Option Addr} {n cap : Nat} {l : List Int} (h : IsInts w (.slice oa n cap) l) (hn : 0 < l.length) : ∃ b o, oa = some ⟨b, o, none⟩ ∧ b < w.heap.size ∧ ∀ i, i < l.length → w.cell? ⟨b, o + i, none⟩ = some (.int .i64 (l.getD i 0)) := by
  obtain ⟨oa', cap', hv, hm, hx, hc⟩ := h
  cases hv
  obtain ⟨b, o, e, hb, hcell⟩ := hc (by rintro rfl; simp at hn)
  refine ⟨b, o, e, hb, fun i hi => hcell i _ ?_⟩
  rw [List.getD_eq_getElem?_getD, List.getElem?_eq_getElem hi]; rfl

set_option maxRecDepth 100000 in
set_option maxHeartbeats 8000000 in
theorem trimmed_any (w : World) (v : Value) (l : List Int) (h : IsInts w v l) (hcp : CapOK v) (hl : l.length ≤ 1000) : Calls Try.prog 53 #[v] w (NewI (bareL l) w) := by
  have H := Lib.hid h
  obtain ⟨oa, cap, hv, hm, _, _⟩ := h
  subst hv
  obtain ⟨_, _, _, hv, hcap⟩ := hcp
  cases hv
  unfold maxLen at hm
  have HCAP : Hid (∀ k, k ≤ l.length → IsInts w (.slice oa k cap) (l.take k)) := Lib.hid fun k hk => H.out.take hk
  go_enter Try.func53, Try.ntmps53
  go_wp2
  go_loop [0] (fun s => ∃ k : Nat, k ≤ l.length ∧ s = .slice oa k cap ∧ bareN l k = bareN l l.length) (fun s => lenV s)
  case atStart => exact ⟨l.length, Nat.le_refl _, rfl, rfl⟩
  case round =>
    obtain ⟨k, hk, rfl, hb⟩ := hrel
    have HB := Lib.hid hb
    clear hb
    rcases k with _ | k
    · have HV : Hid (bareL l = l.take 0) := Lib.hid (by unfold bareL; rw [← HB.out]; rfl)
      go_wp2_with fail
      refine (clone_any w _ _ (HCAP.out 0 (by omega)) (by simp)).mono ?_
      rintro e w1 ⟨v1, rfl, ho, hk1⟩
      go_wp2
      go_ret
      exact ⟨v1, rfl, by rw [HV.out]; exact ho, hk1⟩
    · obtain ⟨b, o, hoa, hbl, hc⟩ := H.out.cellAt (by omega)
      subst hoa
      have c0 := hc k (by omega)
      have hk1 : ((k + 1 : Nat) : Int) - 1 = (k : Int) := by omega
      have hk2 : (0 : Int) < ((k + 1 : Nat) : Int) := by omega
      have hkc : (k : Int) < ((k + 1 : Nat) : Int) := by omega
      have hkc2 : (k : Int) ≤ (cap : Int) := by omega
      have hkc3 : k ≤ cap := by omega
      clear hc
      obtain ⟨x, hx⟩ : ∃ x, l.getD k 0 = x := ⟨_, rfl⟩
      rw [hx] at c0
      have HX := Lib.hid hx
      clear hx
      by_cases h0 : x = 0
      · subst h0
        have HN : Hid (bareN l k = bareN l l.length) := Lib.hid (by rw [← HB.out]; conv => rhs; unfold bareN; rw [if_pos HX.out])
        go_wp2
        go_round
        case rel => exact ⟨k, by omega, by simp, HN.out⟩
        case measure => simp [lenV]
      · have e0 : (x == 0) = false := by rw [beq_eq_false_iff_ne]; exact h0
        have HV : Hid (bareL l = l.take (k + 1)) := Lib.hid (by unfold bareL; rw [← HB.out]; conv => lhs; unfold bareN; rw [if_neg (by rw [HX.out]; exact h0)])
        clear h0
        go_wp2_with fail
        refine (clone_any w _ _ (HCAP.out (k + 1) (by omega)) (by simp; omega)).mono ?_
        rintro e w1 ⟨v1, rfl, ho, hk1⟩
        go_wp2
        go_ret
        exact ⟨v1, rfl, by rw [HV.out]; exact ho, hk1⟩
end Go.Proofs.Ytihcbmkjfacooaa
