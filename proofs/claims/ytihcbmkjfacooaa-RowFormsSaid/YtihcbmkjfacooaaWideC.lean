/- Contracts of the wide numbers: reading them. -/
import Derived.Test.YtihcbmkjfacooaaWideB
namespace Go.Proofs.Ytihcbmkjfacooaa
open Go.ChangeShapes Go.WideShapes Go.RowKit
set_option linter.unusedVariables false
set_option linter.unusedSimpArgs false

set_option maxHeartbeats 1000000 in
theorem sign_any (w : World) (b o : Nat) (z : Int) (h : IsInt w b o z) :
    Calls Try.prog 123 #[.pointer (some ⟨b, o, none⟩)] w fun e w' => e = .returned (.int .i64 z.sign) ∧ w = w' := by
  obtain ⟨neg, ds, hr, hn, hne, hz, h1, h2, h3⟩ := h.open
  obtain ⟨g, cap, hc0, hc1, hlc, hcm, hb, hg, hgb, hf0, hf1, hdig⟩ := hr.open
  unfold maxLen at hcm
  clear hdig hr hn hne h hz h3
  by_cases h0 : z = 0
  · subst h0
    have := h2.2 rfl
    subst this
    clear h1 h2
    go_enter Try.func123, Try.ntmps123
    go_wp2
    go_ret
    exact ⟨rfl, rfl⟩
  · have hl : 0 < ds.length := List.length_pos_iff.2 fun e => h0 (h2.1 e)
    have e1 : ((ds.length : Int) == 0) = false := beq_eq_false_iff_ne.2 (by omega)
    by_cases hlt : z < 0
    · obtain rfl := h1.2 hlt
      have e2 : z.sign = -1 := Int.sign_eq_neg_one_of_neg hlt
      have E2 := Lib.hid e2
      clear h1 h2 e2
      go_enter Try.func123, Try.ntmps123
      go_wp2
      go_ret
      exact ⟨ret_int E2.out.symm, rfl⟩
    · obtain rfl : neg = false := by cases neg; rfl; exact absurd (h1.1 rfl) hlt
      have e2 : z.sign = 1 := Int.sign_eq_one_of_pos (show 0 < z by omega)
      have E2 := Lib.hid e2
      clear h1 h2 e2
      go_enter Try.func123, Try.ntmps123
      go_wp2
      go_ret
      exact ⟨ret_int E2.out.symm, rfl⟩

theorem or_join (a b : Nat) (ha : a < 4294967296) (hb : b < 4294967296) : bits .or .u64 (IntKind.u64.wrap ((a : Int) * 4294967296)) (IntKind.u64.wrap (b : Int)) = ((a * 4294967296 + b : Nat) : Int) := by
  rw [show ((a : Int) * 4294967296) = ((a * 4294967296 : Nat) : Int) from by simp, wrap_u64 _ (by omega), wrap_u64 _ (by omega), u64_or_nat _ _ (by omega) (by omega)]
  congr 1
  have := Nat.shiftLeft_add_eq_or_of_lt (i := 32) (by simpa using hb) a
  rw [Nat.shiftLeft_eq] at this
  simpa using this.symm

theorem or_nought (b : Nat) (hb : b < 4294967296) : bits .or .u64 0 (IntKind.u64.wrap (b : Int)) = (b : Int) := by
  have := or_join 0 b (by omega) hb
  simpa [IntKind.wrap, IntKind.bits, IntKind.signed] using this

set_option maxHeartbeats 1000000 in
theorem uint64_any (w : World) (b o : Nat) (z : Int) (h : IsInt w b o z) :
    Calls Try.prog 128 #[.pointer (some ⟨b, o, none⟩)] w fun e w' => e = .returned (.int .u64 (z.natAbs % 18446744073709551616 : Nat)) ∧ w = w' := by
  obtain ⟨neg, ds, hr, hn, hne, hz, h1, h2, h3⟩ := h.open
  obtain ⟨g, cap, hc0, hc1, hlc, hcm, hb, hg, hgb, hf0, hf1, hdig⟩ := hr.open
  unfold maxLen at hcm
  clear hr hn hne h hz h1 h2
  have H3 := Lib.hid h3; clear h3
  match ds with
  | [] =>
    clear hdig
    go_enter Try.func128, Try.ntmps128
    go_wp2
    go_rounds 1
    go_ret
    refine ⟨ret_int ?_, rfl⟩
    rw [← H3.out]; rfl
  | [a] =>
    obtain ⟨q1, q2⟩ := hdig 0 (by simp)
    clear hdig
    go_enter Try.func128, Try.ntmps128
    go_wp2
    go_rounds 2
    go_ret
    refine ⟨ret_int ?_, rfl⟩
    rw [← H3.out, or_nought a (by simpa using q2)]
    simp [dval]
    have : a < 4294967296 := by simpa using q2
    omega
  | [a, a2] =>
    obtain ⟨q1, q2⟩ := hdig 0 (by simp)
    obtain ⟨q3, q4⟩ := hdig 1 (by simp)
    clear hdig
    go_enter Try.func128, Try.ntmps128
    go_wp2
    go_rounds 3
    go_ret
    refine ⟨ret_int ?_, rfl⟩
    have h1 : a < 4294967296 := by simpa using q2
    have h2 : a2 < 4294967296 := by simpa using q4
    rw [← H3.out, or_nought a2 h2, or_join a2 a h2 h1]
    simp [dval]
    omega
  | a :: a2 :: a3 :: l =>
    obtain ⟨q1, q2⟩ := hdig 0 (by simp)
    obtain ⟨q3, q4⟩ := hdig 1 (by simp)
    clear hdig
    go_enter Try.func128, Try.ntmps128
    go_wp2
    go_rounds 3
    go_ret
    refine ⟨ret_int ?_, rfl⟩
    have h1 : a < 4294967296 := by simpa using q2
    have h2 : a2 < 4294967296 := by simpa using q4
    rw [← H3.out, or_nought a2 h2, or_join a2 a h2 h1]
    simp only [dval]
    omega

theorem int64_pos (n : Nat) (h : n < 18446744073709551616) (h2 : n < 9223372036854775808) : IntKind.i64.wrap (n : Int) = n := by
  simp only [IntKind.wrap, IntKind.bits, IntKind.signed]; simp; omega

set_option maxHeartbeats 1000000 in
theorem int64_any (w : World) (b o : Nat) (z : Int) (h : IsInt w b o z) (h1 : -9223372036854775808 ≤ z) (h2 : z ≤ 9223372036854775807) :
    Calls Try.prog 98 #[.pointer (some ⟨b, o, none⟩)] w fun e w' => e = .returned (.int .i64 z) ∧ w = w' := by
  have U := uint64_any w b o z h
  rw [show z.natAbs % 18446744073709551616 = z.natAbs from by omega] at U
  obtain ⟨neg, ds, hr, hn, hne, hz, g1, g2, g3⟩ := h.open
  obtain ⟨g, cap, hc0, hc1, hlc, hcm, hb, hg, hgb, hf0, hf1, hdig⟩ := hr.open
  have HU := Lib.hid U
  clear hdig hr hn hne h hz g2 g3 U
  by_cases hlt : z < 0
  · obtain rfl := g1.2 hlt
    clear g1
    go_enter Try.func98, Try.ntmps98
    go_wp2_with fail
    refine HU.out.mono ?_
    rintro e w1 ⟨rfl, rfl⟩
    go_wp2
    go_ret
    refine ⟨ret_int ?_, rfl⟩
    unfold wrap64
    omega
  · obtain rfl : neg = false := by cases neg; rfl; exact absurd (g1.1 rfl) hlt
    clear g1
    go_enter Try.func98, Try.ntmps98
    go_wp2_with fail
    refine HU.out.mono ?_
    rintro e w1 ⟨rfl, rfl⟩
    go_wp2
    go_ret
    refine ⟨ret_int ?_, rfl⟩
    omega

/-- Less, the same, greater: as digits from the top. -/
def cmpN (a b : Nat) : Int := if a < b then -1 else if a = b then 0 else 1

theorem dval_split (ds : List Nat) (k : Nat) (h : k ≤ ds.length) : dval ds = dval (ds.take k) + 4294967296 ^ k * dval (ds.drop k) := by
  have := dval_append (ds.take k) (ds.drop k)
  rw [List.take_append_drop, List.length_take, Nat.min_eq_left h] at this
  exact this

theorem dval_less (ds ds' : List Nat) (k : Nat) (hl : ds.length = ds'.length) (hk : k < ds.length) (he : ds.drop (k + 1) = ds'.drop (k + 1)) (hd : ∀ d ∈ ds, d < 4294967296) (hlt : ds.getD k 0 < ds'.getD k 0) : dval ds < dval ds' := by
  rw [dval_split ds (k + 1) (by omega), dval_split ds' (k + 1) (by omega), he, dval_take_succ ds k hk, dval_take_succ ds' k (by omega)]
  have h1 := dval_lt (ds.take k) fun d h => hd d (List.mem_of_mem_take h)
  rw [List.length_take, Nat.min_eq_left (by omega)] at h1
  have h2 : 4294967296 ^ k * (ds.getD k 0 + 1) ≤ 4294967296 ^ k * ds'.getD k 0 := Nat.mul_le_mul_left _ hlt
  rw [Nat.mul_add] at h2
  omega

theorem dval_short (ds ds' : List Nat) (h : NoEnd ds') (hl : ds.length < ds'.length) (hd : ∀ d ∈ ds, d < 4294967296) : dval ds < dval ds' := by
  have h1 := dval_lt ds hd
  have h2 := dval_ge ds' h (by intro e; subst e; simp at hl)
  have h3 : 4294967296 ^ ds.length ≤ 4294967296 ^ (ds'.length - 1) := Nat.pow_le_pow_right (by omega) (by omega)
  omega

theorem IsRaw.lt {w : World} {b o : Nat} {neg : Bool} {ds : List Nat} (h : IsRaw w b o neg ds) : ∀ d ∈ ds, d < 4294967296 := by
  obtain ⟨c, t, v, hb, ht, h0, h1, g', cap', cg, fr, hv, hg, hl, hm, hc, hd⟩ := h; exact hd

set_option maxHeartbeats 4000000 in
theorem cmpAbs_any (w : World) (b o b' o' : Nat) (x y : Int) (hx : IsInt w b o x) (hy : IsInt w b' o' y) :
    Calls Try.prog 97 #[.pointer (some ⟨b, o, none⟩), .pointer (some ⟨b', o', none⟩)] w fun e w' => e = .returned (.int .i64 (cmpN x.natAbs y.natAbs)) ∧ ∃ n, w' = w.drewN n := by
  obtain ⟨neg, ds, hr, hn, hne, hz, g1, g2, g3⟩ := hx.open
  obtain ⟨neg', ds', hr', hn', hne', hz', g1', g2', g3'⟩ := hy.open
  obtain ⟨g, cap, hc0, hc1, hlc, hcm, hb, hg, hgb, hf0, hf1, hdig⟩ := hr.open
  obtain ⟨g', cap', hc0', hc1', hlc', hcm', hb', hg', hgb', hf0', hf1', hdig'⟩ := hr'.open
  have HL := Lib.hid hr.lt
  have HL' := Lib.hid hr'.lt
  clear hr hr' hne hne' hz hz' g1 g1' g2 g2' hx hy
  have HD := Lib.hid hdig; clear hdig
  have HD' := Lib.hid hdig'; clear hdig'
  have HN := Lib.hid hn; clear hn
  have HN' := Lib.hid hn'; clear hn'
  unfold maxLen at hcm hcm'
  rw [← g3, ← g3']
  clear g3 g3'
  by_cases hl : ds.length = ds'.length
  · have e1 : ((ds.length : Int) != (ds'.length : Int)) = false := by rw [bne_eq_false_iff_eq]; omega
    have Hl := Lib.hid hl; clear hl
    go_enter Try.func97, Try.ntmps97
    go_wp2
    go_quiet (fail)
    go_wp2
    go_loopw [5] (fun n wr => ∃ k : Nat, k ≤ ds.length ∧ n = .int .i64 ((k : Int) - 1) ∧ ds.drop k = ds'.drop k ∧ ∃ m, wr = w.drewN m) (fun n _ => (intOf n + 1).toNat)
    case atStart => exact ⟨ds.length, Nat.le_refl _, rfl, by rw [List.drop_length, Hl.out, List.drop_length], _, rfl⟩
    case round =>
      obtain ⟨k, hk, rfl, hdr, m, rfl⟩ := hrel
      have HR := Lib.hid hdr; clear hdr
      by_cases hk0 : k = 0
      · subst hk0
        have E : cmpN (dval ds) (dval ds') = 0 := by
          have := HR.out; simp at this; subst this; simp [cmpN]
        have EH := Lib.hid E; clear E
        go_wp2
        go_ret
        exact ⟨ret_int EH.out.symm, _, rfl⟩
      · obtain ⟨j, rfl⟩ : ∃ j, k = j + 1 := ⟨k - 1, by omega⟩
        obtain ⟨q1, q2⟩ := HD.out j (by omega)
        obtain ⟨q1', q2'⟩ := HD'.out j (by have := Hl.out; omega)
        have hlt' : (j : Int) < (ds'.length : Int) := by have := Hl.out; omega
        have hlt : (j : Int) < (ds.length : Int) := by omega
        generalize hp : ds.getD j 0 = p at q1 q2
        generalize hp' : ds'.getD j 0 = p' at q1' q2'
        have Hp := Lib.hid hp; clear hp
        have Hp' := Lib.hid hp'; clear hp'
        by_cases hpp : p = p'
        · subst hpp
          have e2 : ((p : Int) != (p : Int)) = false := by simp
          go_wp2
          go_quiet (fail)
          go_wp2
          go_roundw
          case rel =>
            refine ⟨j, by omega, by go_num, ?_, m + nq, by simp⟩
            have h1 : j < ds.length := by omega
            have h2 : j < ds'.length := by omega
            rw [List.drop_eq_getElem_cons h1, List.drop_eq_getElem_cons h2, HR.out, ← getD_of_lt h1, ← getD_of_lt h2, Hp.out, Hp'.out]
          case measure => simp [intOf]
        · have e2 : ((p : Int) != (p' : Int)) = true := by rw [bne_iff_ne]; omega
          by_cases hlp : p < p'
          · have E : cmpN (dval ds) (dval ds') = -1 := by
              have := dval_less ds ds' j Hl.out (by omega) HR.out HL.out (by rw [Hp.out, Hp'.out]; exact hlp)
              simp [cmpN, this]
            have EH := Lib.hid E; clear E
            go_wp2
            go_quiet (fail)
            go_wp2
            go_quiet (fail)
            go_wp2
            go_ret
            exact ⟨ret_int EH.out.symm, _, by rw [World.drewN_drewN, World.drewN_drewN]⟩
          · have E : cmpN (dval ds) (dval ds') = 1 := by
              have := dval_less ds' ds j Hl.out.symm (by omega) HR.out.symm HL'.out (by rw [Hp.out, Hp'.out]; omega)
              unfold cmpN; rw [if_neg (by omega), if_neg (by omega)]
            have EH := Lib.hid E; clear E
            go_wp2
            go_quiet (fail)
            go_wp2
            go_quiet (fail)
            go_wp2
            go_ret
            exact ⟨ret_int EH.out.symm, _, by rw [World.drewN_drewN, World.drewN_drewN]⟩
  · have e1 : ((ds.length : Int) != (ds'.length : Int)) = true := by rw [bne_iff_ne]; omega
    by_cases hlt : ds.length < ds'.length
    · have E : cmpN (dval ds) (dval ds') = -1 := by
        have := dval_short ds ds' HN'.out hlt HL.out
        simp [cmpN, this]
      have EH := Lib.hid E; clear E hl
      go_enter Try.func97, Try.ntmps97
      go_wp2
      go_quiet (fail)
      go_wp2
      go_quiet (fail)
      go_wp2
      go_ret
      exact ⟨ret_int EH.out.symm, _, World.drewN_drewN _ _ _⟩
    · have E : cmpN (dval ds) (dval ds') = 1 := by
        have := dval_short ds' ds HN.out (by omega) HL'.out
        unfold cmpN; rw [if_neg (by omega), if_neg (by omega)]
      have EH := Lib.hid E; clear E hl
      go_enter Try.func97, Try.ntmps97
      go_wp2
      go_quiet (fail)
      go_wp2
      go_quiet (fail)
      go_wp2
      go_ret
      exact ⟨ret_int EH.out.symm, _, World.drewN_drewN _ _ _⟩

end Go.Proofs.Ytihcbmkjfacooaa
