/- The law LatticeSure: its walk. -/
import Derived.Test.YtamjmcdlddocgaaLcK
import Derived.Test.YtamjmcdlddocgaaLcO
import Derived.Test.YtamjmcdlddocgaaOkOf
namespace Go.Proofs.Ytamjmcdlddocgaa
open Go.ChangeShapes Go.WideShapes Go.RowKit
set_option linter.unusedVariables false
set_option linter.unusedSimpArgs false

theorem sure_ok {a b t : Int} (ha : -9 ≤ a ∧ a ≤ 9) (hb : -9 ≤ b ∧ b ≤ 9) (ht : -9 ≤ t ∧ t ≤ 9) : RowOK ⟨[a, b], 3, t⟩ 2 := by
  refine ⟨by decide, by decide, .inr (.inr rfl), Int.le_refl _, fun x hx => ?_, by show fitI t; unfold fitI; omega⟩
  have hx : x = a ∨ x = b := by simpa using hx
  unfold fitI
  omega
theorem sure_fit {a b : Int} (ha : -9 ≤ a ∧ a ≤ 9) (hb : -9 ≤ b ∧ b ≤ 9) : ∀ x ∈ [a, b], fitI x := by
  intro x hx
  have hx : x = a ∨ x = b := by simpa using hx
  unfold fitI
  omega
theorem fit9 {t : Int} (ht : -9 ≤ t ∧ t ≤ 9) : fitI t := by unfold fitI; omega
theorem firstRow_zero {n : Int} : ∀ {l : List Rw} {i : Nat}, (∀ r ∈ l, RowOK r n) → firstRow n l i = (0, 0)
  | [], _, _ => rfl
  | r :: l, i, h => by
    rw [firstRow, if_pos (by rw [okRow_of (h r (List.mem_cons_self))])]
    exact firstRow_zero fun y hy => h y (List.mem_cons_of_mem _ hy)
theorem firstK_zero : ∀ {l : List Rw} {i : Nat}, (∀ r ∈ l, r.kind = 3) → firstK l i = (0, 0)
  | [], _, _ => rfl
  | r :: l, i, h => by
    rw [firstK, if_pos (h r (List.mem_cons_self))]
    exact firstK_zero fun y hy => h y (List.mem_cons_of_mem _ hy)
theorem sure_eq {rows : List Rw} (hok : ∀ r ∈ rows, RowOK r 2) (h3 : ∀ r ∈ rows, r.kind = 3) (hl : rows.length ≤ 40) : eqF rows 2 = (0, 0) := by
  have h : listF rows 2 = (0, 0) := by
    unfold listF
    rw [if_neg (by omega), if_neg (by omega)]
    exact firstRow_zero hok
  unfold eqF
  rw [h, if_neg (by simp)]
  exact firstK_zero h3
set_option maxRecDepth 100000 in
set_option maxHeartbeats 32000000 in
theorem latticeSure_walk (w : World) (a b t c d o : Int) (ha : I64 a) (hb : I64 b) (ht : I64 t) (hc : I64 c) (hd : I64 d) (ho : I64 o) :
    Calls Try.prog 7 #[.int .i64 a, .int .i64 b, .int .i64 t, .int .i64 c, .int .i64 d, .int .i64 o] w fun e w' => e = .returned (.bool true) ∧ Below w.heap.size w w' := by
  suffices hk : Calls Try.prog 7 #[.int .i64 a, .int .i64 b, .int .i64 t, .int .i64 c, .int .i64 d, .int .i64 o] w fun e w' => e = .returned (.bool true) ∧ Keep NoS w w' from hk.mono fun e w' ⟨h1, h2⟩ => ⟨h1, h2.below (Nat.le_refl _) fun _ _ h => h.elim⟩
  go_enter Try.func7, Try.ntmps7
  go_wp2_with fail
  refine (latticeFact_any _).mono ?_
  rintro e w0 ⟨rfl, hk0⟩
  have K0 := Lib.hid hk0
  clear hk0
  have HB14 : Hid (Blk (w0.alloc (.cells #[.int .i64 a, .int .i64 b, .int .i64 t, .int .i64 c, .int .i64 d, .int .i64 o] 3)) w0.heap.size #[.int .i64 a, .int .i64 b, .int .i64 t, .int .i64 c, .int .i64 d, .int .i64 o]) := Lib.hid (blk_at _ _ rfl)
  have K1 : Hid (Keep NoS w (w0.alloc (.cells #[.int .i64 a, .int .i64 b, .int .i64 t, .int .i64 c, .int .i64 d, .int .i64 o] 3))) := Lib.hid (K0.out.alloc _)
  go_upto_region 5 with fail
  generalize w0.alloc (.cells #[.int .i64 a, .int .i64 b, .int .i64 t, .int .i64 c, .int .i64 d, .int .i64 o] 3) = w1 at *
  generalize w0.heap.size = b14 at *
  have HL : Hid (∀ k : Nat, k < 6 → ∃ z, [a, b, t, c, d, o][k]? = some z) := Lib.hid (fun k hk => ⟨_, List.getElem?_eq_getElem hk⟩)
  have hlt14 := HB14.out.lt
  go_wp2
  go_loopw [15] (fun s wr => ∃ k : Nat, k ≤ 6 ∧ s = .int .i64 k ∧ w1 = wr ∧ ∀ j z, j < k → [a, b, t, c, d, o][j]? = some z → -9 ≤ z ∧ z ≤ 9) (fun s _ => (6 - intOf s).toNat)
  case atStart => exact ⟨0, by omega, rfl, rfl, fun j z hj => absurd hj (by omega)⟩
  case round =>
    obtain ⟨k, hk, rfl, rfl, hz⟩ := hrel
    have HZ := Lib.hid hz
    clear hz
    by_cases hk6 : k < 6
    case pos =>
      have hltk : (k : Int) < 6 := by omega
      obtain ⟨z, hzk⟩ := HL.out k hk6
      have c0 : w1.cell? ⟨b14, k, none⟩ = some (.int .i64 z) := by
        rw [HB14.out.cell]
        rcases (by omega : k = 0 ∨ k = 1 ∨ k = 2 ∨ k = 3 ∨ k = 4 ∨ k = 5) with rfl | rfl | rfl | rfl | rfl | rfl <;> (simp at hzk; subst hzk; rfl)
      have HZK := Lib.hid hzk
      clear hzk
      by_cases h1 : z < -9
      · go_simp
        repeat go_step
        refine bodyPost_ret (by simp [results, Try.results7, go_sem]; rfl) rfl ?_
        first | exact ⟨rfl, K1.out⟩ | exact ⟨trivial, K1.out⟩
      · by_cases h2 : 9 < z
        · go_simp
          repeat go_step
          refine bodyPost_ret (by simp [results, Try.results7, go_sem]; rfl) rfl ?_
          first | exact ⟨rfl, K1.out⟩ | exact ⟨trivial, K1.out⟩
        · go_wp2
          go_roundw
          case rel => exact ⟨k + 1, by omega, by go_num, by trivial, fun j y hj hy => (by
            by_cases e : j = k
            · subst e
              rw [HZK.out] at hy
              cases hy
              omega
            · exact HZ.out j y (by omega) hy)⟩
          case measure => simp [intOf]; omega
    case neg =>
      have hltk : ¬ (k : Int) < 6 := by omega
      obtain rfl : k = 6 := by omega
      have ra := Lib.hid (HZ.out 0 a (by omega) rfl)
      have rb := Lib.hid (HZ.out 1 b (by omega) rfl)
      have rt := Lib.hid (HZ.out 2 t (by omega) rfl)
      have rc := Lib.hid (HZ.out 3 c (by omega) rfl)
      have rd := Lib.hid (HZ.out 4 d (by omega) rfl)
      have ro := Lib.hid (HZ.out 5 o (by omega) rfl)
      obtain ⟨R1, hR1, hy1⟩ := sure_one a b t ra.out rb.out rt.out
      obtain ⟨R2, hR2⟩ := sure_two a b t c d o ra.out rb.out rt.out rc.out rd.out ro.out
      have ok1 : ∀ r ∈ [(⟨[a, b], 3, t⟩ : Rw)], RowOK r 2 := fun r hr => by rw [List.mem_singleton.1 hr]; exact sure_ok ra.out rb.out rt.out
      have ok2 : ∀ r ∈ [(⟨[a, b], 3, t⟩ : Rw), ⟨[c, d], 3, o⟩], RowOK r 2 := fun r hr => by
        simp at hr
        rcases hr with rfl | rfl
        · exact sure_ok ra.out rb.out rt.out
        · exact sure_ok rc.out rd.out ro.out
      have C1 := fun w v (h : IsRows w v [⟨[a, b], 3, t⟩]) => Lib.hid (ltDo_any w v [⟨[a, b], 3, t⟩] 2 5 R1 h (sure_eq ok1 (by simp) (by simp)) ok1 (by decide) (by decide) (by simp) hR1)
      have C2 := fun w v (h : IsRows w v [⟨[a, b], 3, t⟩, ⟨[c, d], 3, o⟩]) => Lib.hid (ltDo_any w v [⟨[a, b], 3, t⟩, ⟨[c, d], 3, o⟩] 2 5 R2 h (sure_eq ok2 (by simp) (by simp)) ok2 (by decide) (by decide) (by simp) hR2)
      have HY1 := Lib.hid hy1
      clear ok1 ok2 hR1 hR2 hy1 HZ HL HB14
      go_wp2_with fail
      refine (C1 _ _ (lie_rows (b := w1.heap.size + 1 + 1 + 1 + 1) (xs := [⟨.slice (some ⟨w1.heap.size, 0, none⟩) 2 2, ⟨[a, b], 3, t⟩⟩]) (by (repeat (first | (refine blk_at _ _ ?_; simp; done) | (refine Blk.old ?_ _)))) rfl rfl rfl (fun x hx => by simp at hx; subst hx; exact lie_row (b := w1.heap.size) [a, b] 3 t (by (repeat (first | (refine blk_at _ _ ?_; simp; done) | (refine Blk.old ?_ _)))) rfl (sure_fit ra.out rb.out) (by simp) (by decide) (fit9 rt.out) 2 rfl) (by simp [maxLen]))).out.mono ?_
      rintro e w2 ⟨va, vw, vy, rfl, _, _, _, hk⟩
      have HI1 : Hid (Blk w2 w1.heap.size #[.int .i64 a, .int .i64 b]) := Lib.hid (Blk.keep (by (repeat (first | (with_reducible assumption) | (refine blk_at _ _ ?_; simp; done) | (refine Blk.old ?_ _)))) hk)
      have HB16 : Hid (Blk w2 (w1.heap.size + 1) #[.slice (some ⟨w1.heap.size, 0, none⟩) 2 2, .int .i64 3, .int .i64 t]) := Lib.hid (Blk.keep (by (repeat (first | (with_reducible assumption) | (refine blk_at _ _ ?_; simp; done) | (refine Blk.old ?_ _)))) hk)
      have HI2 : Hid (Blk w2 (w1.heap.size + 1 + 1) #[.int .i64 c, .int .i64 d]) := Lib.hid (Blk.keep (by (repeat (first | (with_reducible assumption) | (refine blk_at _ _ ?_; simp; done) | (refine Blk.old ?_ _)))) hk)
      have HB17 : Hid (Blk w2 (w1.heap.size + 1 + 1 + 1) #[.slice (some ⟨w1.heap.size + 1 + 1, 0, none⟩) 2 2, .int .i64 3, .int .i64 o]) := Lib.hid (Blk.keep (by (repeat (first | (with_reducible assumption) | (refine blk_at _ _ ?_; simp; done) | (refine Blk.old ?_ _)))) hk)
      have K2 : Hid (Keep NoS w w2) := Lib.hid (K1.out.both (Keep.trans (by (repeat' (with_reducible first | assumption | exact HK.out | exact keR | refine keA ?_ | refine keS ?_ fun h => absurd h (by omega) | refine keN ?_ | refine keD ?_))) hk fun _ _ _ h => h))
      clear hk C1
      generalize w1.heap.size + 1 + 1 + 1 = b17 at *
      generalize w1.heap.size + 1 + 1 = i2 at *
      generalize w1.heap.size + 1 = b16 at *
      generalize w1.heap.size = i1 at *
      obtain ⟨p0, p1, p2, _, _, _, pl⟩ := HB16.out.three
      obtain ⟨q0, q1, q2, _, _, _, ql⟩ := HB17.out.three
      have n16 : ¬ b16 = w2.heap.size := by omega
      have n17 : ¬ b17 = w2.heap.size := by omega
      go_wp2_with fail
      refine (C2 _ _ (lie_rows (b := w2.heap.size + 1) (xs := [⟨.slice (some ⟨i1, 0, none⟩) 2 2, ⟨[a, b], 3, t⟩⟩, ⟨.slice (some ⟨i2, 0, none⟩) 2 2, ⟨[c, d], 3, o⟩⟩]) (by (repeat (first | (refine blk_at _ _ ?_; simp; done) | (refine Blk.old ?_ _)))) rfl rfl rfl (fun x hx => ?_) (by simp [maxLen]))).out.mono ?_
      · simp at hx
        rcases hx with rfl | rfl
        · exact lie_row (b := i1) [a, b] 3 t (HI1.out.keep (((Keep.refl _ _).alloc _).alloc _)) rfl (sure_fit ra.out rb.out) (by simp) (by decide) (fit9 rt.out) 2 rfl
        · exact lie_row (b := i2) [c, d] 3 o (HI2.out.keep (((Keep.refl _ _).alloc _).alloc _)) rfl (sure_fit rc.out rd.out) (by simp) (by decide) (fit9 ro.out) 2 rfl
      rintro e w3 ⟨va', vw', vy', rfl, _, _, _, hk⟩
      have HB22 : Hid (Blk w3 w2.heap.size #[.int .i64 0, .int .i64 0]) := Lib.hid (Blk.keep (by (repeat (first | (with_reducible assumption) | (refine blk_at _ _ ?_; simp; done) | (refine Blk.old ?_ _)))) hk)
      have K3 : Hid (Keep NoS w w3) := Lib.hid (K2.out.both (Keep.trans (by (repeat' (with_reducible first | assumption | exact HK.out | exact keR | refine keA ?_ | refine keS ?_ fun h => absurd h (by omega) | refine keN ?_ | refine keD ?_))) hk fun _ _ _ h => h))
      have H22L : Hid (w2.heap.size < w3.heap.size) := Lib.hid HB22.out.lt
      clear hk C2 p0 p1 p2 pl q0 q1 q2 ql n16 n17
      generalize w2.heap.size = b22 at *
      obtain ⟨p0, p1, _, _, pl⟩ := HB22.out.two
      have n22 : ¬ b22 = w3.heap.size := by omega
      have K4 : Hid (Keep NoS w (w3.alloc (.cells #[.int .i64 0, .int .i64 0] 24))) := Lib.hid (K3.out.alloc _)
      rw [HY1.out]
      clear HY1 HB16 HB17 HI1 HI2 K1 K2
      have HT0 : Hid ((t == 0) = decide (t = 0)) := Lib.hid rfl
      go_upto_region 17 with fail
      rw [HT0.out]
      clear HT0 p0 p1 pl n22 HB22 H22L
      generalize w3.alloc (.cells #[.int .i64 0, .int .i64 0] 24) = w4 at *
      have HDV : Hid (divZ a b t = (decide (t = 0) || allZ a b t 19)) := Lib.hid rfl
      generalize divZ a b t = dv at *
      go_wp2
      go_loopw [29, 28] (fun s u wr => ∃ i : Nat, i ≤ 19 ∧ s = .int .i64 ((i : Int) - 9) ∧ u = .bool (decide (t = 0) || allZ a b t i) ∧ w4 = wr) (fun s _ _ => (10 - intOf s).toNat)
      case atStart => exact ⟨0, by omega, rfl, by simp [allZ], rfl⟩
      case round =>
        obtain ⟨i, hi, rfl, rfl, rfl⟩ := hrel
        obtain ⟨x, hx⟩ : ∃ x : Int, (i : Int) - 9 = x := ⟨_, rfl⟩
        have HX := Lib.hid hx
        have hx1 : -9 ≤ x ∧ x ≤ 10 := by omega
        obtain ⟨u0, hu0⟩ : ∃ u0, (decide (t = 0) || allZ a b t i) = u0 := ⟨_, rfl⟩
        have HU0 := Lib.hid hu0
        rw [hx, hu0]
        clear hx hu0
        by_cases hi9 : i < 19
        case neg =>
          have hlt : ¬ x ≤ 9 := by have := HX.out; omega
          obtain rfl : i = 19 := by omega
          have e : dv = u0 := HDV.out.trans HU0.out
          subst e
          go_wp2
          go_ret
          exact ⟨by simp, K4.out⟩
        case pos =>
          have hlt : x ≤ 9 := by have := HX.out; omega
          have HAX : Hid ((a * x).natAbs ≤ 9 * 9) := Lib.hid (prod_le (by have := ra.out; omega) (by omega))
          go_wp2
          go_loopw [30, 28] (fun s u wr => ∃ j : Nat, j ≤ 19 ∧ s = .int .i64 ((j : Int) - 9) ∧ u = .bool (u0 || rowZ a b t x j) ∧ w4 = wr) (fun s _ _ => (10 - intOf s).toNat)
          case atStart => exact ⟨0, by omega, rfl, by simp [rowZ], rfl⟩
          case round =>
            obtain ⟨j, hj, rfl, rfl, rfl⟩ := hrel
            obtain ⟨z, hz⟩ : ∃ z : Int, (j : Int) - 9 = z := ⟨_, rfl⟩
            have HZ := Lib.hid hz
            have hz1 : -9 ≤ z ∧ z ≤ 10 := by omega
            obtain ⟨u1, hu1⟩ : ∃ u1, (u0 || rowZ a b t x j) = u1 := ⟨_, rfl⟩
            have HU1 := Lib.hid hu1
            rw [hz, hu1]
            clear hz hu1
            by_cases hj9 : j < 19
            case neg =>
              have hltz : ¬ z ≤ 9 := by have := HZ.out; omega
              obtain rfl : j = 19 := by omega
              have HN : Hid ((decide (t = 0) || allZ a b t (i + 1)) = u1) := Lib.hid (by rw [allZ_succ, HX.out, ← Bool.or_assoc, HU0.out]; exact HU1.out)
              have HX1 : Hid (((i + 1 : Nat) : Int) - 9 = x + 1) := Lib.hid (by have := HX.out; omega)
              go_wp2
              go_roundw
              case rel => exact ⟨i + 1, by omega, by rw [HX1.out], by rw [HN.out], trivial⟩
              case measure => simp [intOf]; omega
            case pos =>
              have hltz : z ≤ 9 := by have := HZ.out; omega
              have hbz : (b * z).natAbs ≤ 9 * 9 := prod_le (by have := rb.out; omega) (by omega)
              have hax := HAX.out
              obtain ⟨P, hP⟩ : ∃ P, a * x = P := ⟨_, rfl⟩
              obtain ⟨Q, hQ⟩ : ∃ Q, b * z = Q := ⟨_, rfl⟩
              have HPQ := Lib.hid (And.intro hP hQ)
              rw [hP] at hax
              rw [hQ] at hbz
              have e1 : IntKind.i64.wrap (a * x) = P := by rw [hP]; exact Go.IntWalk.i64_in _ (by omega)
              have e2 : IntKind.i64.wrap (b * z) = Q := by rw [hQ]; exact Go.IntWalk.i64_in _ (by omega)
              obtain ⟨s, hs⟩ : ∃ s, P + Q = s := ⟨_, rfl⟩
              have e3 : IntKind.i64.wrap (P + Q) = s := by rw [hs]; exact Go.IntWalk.i64_in _ (by omega)
              have hsb : -200 ≤ s ∧ s ≤ 200 := by omega
              have HH : Hid (hitZ a b t x z = ((s != 0) && (t.tmod s == 0))) := Lib.hid (by unfold hitZ; rw [hP, hQ, hs])
              have HRS : Hid (rowZ a b t x (j + 1) = (rowZ a b t x j || hitZ a b t x z)) := Lib.hid (by rw [rowZ_succ, HZ.out])
              have HZ1 : Hid (((j + 1 : Nat) : Int) - 9 = z + 1) := Lib.hid (by have := HZ.out; omega)
              have hrb := rt.out
              clear hP hQ hs hax hbz
              by_cases hs0 : s = 0
              · have HN : Hid ((u0 || rowZ a b t x (j + 1)) = u1) := Lib.hid (by rw [HRS.out, HH.out, ← Bool.or_assoc, HU1.out, hs0]; simp)
                subst hs0
                go_wp2
                go_roundw
                case rel => exact ⟨j + 1, by omega, by rw [HZ1.out], by rw [HN.out], trivial⟩
                case measure => simp [intOf]; omega
              · have hs0' : (s != 0) = true := by rw [bne_iff_ne]; exact hs0
                have hmb : (t.tmod s).natAbs ≤ 9 := by rw [Int.natAbs_tmod]; exact Nat.le_trans (Nat.mod_le _ _) (by omega)
                have e4 : IntKind.i64.wrap (t.tmod s) = t.tmod s := Go.IntWalk.i64_in _ (by omega)
                by_cases hm0 : t.tmod s = 0
                · have HN : Hid ((u0 || rowZ a b t x (j + 1)) = true) := Lib.hid (by rw [HRS.out, HH.out, hs0', hm0]; simp)
                  go_wp2
                  go_roundw
                  case rel => exact ⟨j + 1, by omega, by rw [HZ1.out], by rw [HN.out], trivial⟩
                  case measure => simp [intOf]; omega
                · have hm1 : (t.tmod s == 0) = false := by rw [beq_eq_false_iff_ne]; exact hm0
                  have HN : Hid ((u0 || rowZ a b t x (j + 1)) = u1) := Lib.hid (by
                    rw [HRS.out, HH.out, hm1, ← Bool.or_assoc, HU1.out]
                    simp)
                  go_wp2
                  go_roundw
                  case rel => exact ⟨j + 1, by omega, by rw [HZ1.out], by rw [HN.out], trivial⟩
                  case measure => simp [intOf]; omega
end Go.Proofs.Ytamjmcdlddocgaa
