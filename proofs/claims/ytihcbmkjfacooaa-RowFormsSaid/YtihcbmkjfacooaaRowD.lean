/- The reference's Row, bare, common. -/
import Derived.Test.YtihcbmkjfacooaaRowC
namespace Go.Proofs.Ytihcbmkjfacooaa
open Go.ChangeShapes Go.WideShapes Go.RowKit
set_option linter.unusedVariables false
set_option linter.unusedSimpArgs false

set_option maxRecDepth 100000 in
set_option maxHeartbeats 8000000 in
theorem bare_any (w : World) (v : Value) (l : List Int) (h : IsInts w v l) (hcp : CapOK v) (hl : l.length ≤ 1000) : Calls Try.prog 58 #[v] w fun e w' => (∃ v', e = .returned v' ∧ IsInts w v' (bareL l) ∧ CapOK v') ∧ w' = w := by
  have H := Lib.hid h
  obtain ⟨oa, cap, hv, hm, _, _⟩ := h
  subst hv
  obtain ⟨_, _, _, hv, hcap⟩ := hcp
  cases hv
  unfold maxLen at hm
  have HCAP : Hid (∀ k, k ≤ l.length → IsInts w (.slice oa k cap) (l.take k)) := Lib.hid fun k hk => H.out.take hk
  go_enter Try.func58, Try.ntmps58
  go_wp2
  go_loop [0] (fun s => ∃ k : Nat, k ≤ l.length ∧ s = .slice oa k cap ∧ bareN l k = bareN l l.length) (fun s => lenV s)
  case atStart => exact ⟨l.length, Nat.le_refl _, rfl, rfl⟩
  case round =>
    obtain ⟨k, hk, rfl, hb⟩ := hrel
    have HB := Lib.hid hb
    clear hb
    rcases k with _ | k
    · have HV : Hid (bareL l = l.take 0) := Lib.hid (by unfold bareL; rw [← HB.out]; rfl)
      go_wp2
      go_ret
      exact ⟨⟨_, rfl, by rw [HV.out]; exact HCAP.out 0 (by omega), _, _, _, rfl, by omega⟩, rfl⟩
    · obtain ⟨b, o, hoa, hbl, hc⟩ := H.out.cellAt (by omega)
      subst hoa
      have c0 := hc k (by omega)
      have hk1 : ((k + 1 : Nat) : Int) - 1 = (k : Int) := by omega
      have hk2 : (0 : Int) < ((k + 1 : Nat) : Int) := by omega
      have hkc : (k : Int) < ((k + 1 : Nat) : Int) := by omega
      have hkc2 : (k : Int) ≤ (cap : Int) := by omega
      have hkc3 : k ≤ cap := by omega
      clear hc
      obtain ⟨x, hx⟩ : ∃ x, l.getD k 0 = x := ⟨_, rfl⟩
      rw [hx] at c0
      have HX := Lib.hid hx
      clear hx
      by_cases h0 : x = 0
      · subst h0
        have HN : Hid (bareN l k = bareN l l.length) := Lib.hid (by rw [← HB.out]; conv => rhs; unfold bareN; rw [if_pos HX.out])
        go_wp2
        go_round
        case rel => exact ⟨k, by omega, by simp, HN.out⟩
        case measure => simp [lenV]
      · have e0 : (x == 0) = false := by rw [beq_eq_false_iff_ne]; exact h0
        have HV : Hid (bareL l = l.take (k + 1)) := Lib.hid (by unfold bareL; rw [← HB.out]; conv => lhs; unfold bareN; rw [if_neg (by rw [HX.out]; exact h0)])
        clear h0
        go_wp2
        go_ret
        exact ⟨⟨_, rfl, by rw [HV.out]; exact HCAP.out (k + 1) (by omega), _, _, _, rfl, by omega⟩, rfl⟩

/-- The greatest number that divides all. -/
def gcdL (l : List Int) : Nat := l.foldl (fun g x => Nat.gcd g x.natAbs) 0

theorem gcdL_take {l : List Int} {k : Nat} (hk : k < l.length) : gcdL (l.take (k + 1)) = Nat.gcd (gcdL (l.take k)) (l.getD k 0).natAbs := by
  unfold gcdL
  rw [List.take_succ_eq_append_getElem hk, List.foldl_append]
  simp [List.getD, hk]

set_option maxRecDepth 100000 in
set_option maxHeartbeats 8000000 in
theorem common_any (w : World) (v : Value) (l : List Int) (h : IsInts w v l) (hl : l.length ≤ 1000) (hb : ∀ x ∈ l, -9000000 ≤ x ∧ x ≤ 9000000) :
    Calls Try.prog 60 #[v] w fun e w' => e = .returned (.int .i64 (gcdL l : Nat)) ∧ Keep NoS w w' := by
  have H := Lib.hid h
  obtain ⟨oa, cap, hv, hm, _, _⟩ := h
  subst hv
  unfold maxLen at hm
  have HB := Lib.hid hb
  clear hb
  go_enter Try.func60, Try.ntmps60
  go_wp2
  go_loopw [3, 4] (fun g s wr => ∃ k : Nat, k ≤ l.length ∧ s = .int .i64 k ∧ g = .int .i64 (gcdL (l.take k) : Nat) ∧ gcdL (l.take k) ≤ 9000000 ∧ ∃ n, wr = w.drewN n) (fun _ s _ => (l.length - intOf s).toNat)
  case atStart => exact ⟨0, by omega, rfl, rfl, by simp [gcdL], 0, rfl⟩
  case round =>
    obtain ⟨k, hk, rfl, rfl, hg, n, rfl⟩ := hrel
    by_cases hkl : k < l.length
    · have hlt : (k : Int) < (l.length : Int) := by omega
      obtain ⟨b, o, hoa, hbl, hc⟩ := H.out.cellAt (by omega)
      subst hoa
      have c0 := hc k hkl
      have hx := HB.out (l.getD k 0) (by rw [List.getD_eq_getElem?_getD, List.getElem?_eq_getElem hkl]; exact List.getElem_mem hkl)
      have HS := Lib.hid (gcdL_take hkl)
      clear hc
      obtain ⟨x, hX⟩ : ∃ x, l.getD k 0 = x := ⟨_, rfl⟩
      rw [hX] at c0 hx HS
      clear hX
      obtain ⟨g, hG⟩ : ∃ g, gcdL (l.take k) = g := ⟨_, rfl⟩
      rw [hG] at hg HS ⊢
      clear hG
      obtain ⟨hx1, hx2⟩ := hx
      obtain ⟨y, hy, hy9⟩ : ∃ y : Nat, (max x (-x) : Int) = y ∧ y ≤ 9000000 := ⟨x.natAbs, by omega, by omega⟩
      have HY : Hid (y = x.natAbs) := Lib.hid (by omega)
      have hmx : x ≤ -x ∨ ¬ x ≤ -x := by omega
      go_wp2
      refine wp_region_by (fun w' => Keep NoS (w.drewN n) w') [] [] [0, 1, 2, 3, 4, 5, 6, 7, 8, 9, 10, 11, 12] (by kernel_rfl) (by kernel_rfl) (by (repeat' (first | (with_reducible assumption) | (with_reducible exact HK.out) | (with_reducible exact Keep.refl _ _) | (with_reducible refine Keep.alloc ?_ _) | (with_reducible refine Keep.setCell ?_ _ (fun h => absurd h (by omega))) | (with_reducible refine Keep.drewN ?_ _) | (with_reducible refine Keep.drew ?_)))) ?_
      intro X W hne hF hcl
      have hx0 := fun z => ((hF z).cell (k := b) (i := o + k) hbl).trans c0
      clear hF hcl
      simp only [wpPlan, pickOps, List.getElem?_toArray, List.getElem?_cons_zero, List.getElem?_cons_succ, clsOf, Bool.false_eq_true, if_false]
      (repeat (quiet_step (fail))); refine wpQuiet_nil ?_
      have hif : (if x < IntKind.i64.wrap (-x) then IntKind.i64.wrap (-x) else x) = (y : Int) := by
        rw [Go.IntWalk.i64_in _ (by omega)]
        split <;> omega
      rw [hif]
      refine NoPanic.normal ?_
      have HD : Hid (∃ m, (w.drewN n).drew = w.drewN m) := Lib.hid ⟨n + 1, rfl⟩
      have hgy : g ≤ 9000000 := hg
      clear hx0 hmx hif c0 hy hx1 hx2
      go_wp2
      go_loopw [5, 6] (fun s t wr => ∃ p q : Nat, s = .int .i64 p ∧ t = .int .i64 q ∧ p ≤ 9000000 ∧ q ≤ 9000000 ∧ Nat.gcd p q = Nat.gcd g y ∧ ∃ m, wr = w.drewN m) (fun _ t _ => (intOf t).toNat)
      case atStart => exact ⟨g, y, rfl, rfl, hg, hy9, rfl, HD.out⟩
      case round =>
        obtain ⟨p, q, rfl, rfl, hp, hq, hgg, m, rfl⟩ := hrel
        have HG := Lib.hid hgg
        clear hgg
        by_cases h0 : q = 0
        · subst h0
          have HV : Hid (p = gcdL (l.take (k + 1))) := Lib.hid (by rw [HS.out, ← HY.out, ← HG.out, Nat.gcd_zero_right])
          go_wp2
          go_roundw
          case rel => exact ⟨k + 1, by omega, by go_num, by rw [← HV.out], by rw [← HV.out]; exact hp, _, rfl⟩
          case measure => simp [intOf]; omega
        · have hq0 : (0 : Int) < (q : Int) := by omega
          have hm' : p % q < q := Nat.mod_lt _ (by omega)
          go_wp2
          go_quiet (fail)
          go_wp2
          go_roundw
          case rel => exact ⟨q, p % q, rfl, by simp, hq, by omega, by rw [← HG.out, Nat.gcd_comm p q, Nat.gcd_rec q p, Nat.gcd_comm], m + nq, by simp⟩
          case measure => simp [intOf]; omega
    · have hlt : ¬ (k : Int) < (l.length : Int) := by omega
      obtain rfl : k = l.length := by omega
      rw [List.take_length]
      go_wp2
      go_ret
      exact ⟨rfl, (Keep.refl _ _).drewN _⟩
end Go.Proofs.Ytihcbmkjfacooaa
