/- gap.cycle. -/
import Derived.Test.YtnmklgigmmlgeaaGapCycP
import Derived.Test.YtnmklgigmmlgeaaReverse
import Derived.Deep.AppendLies
import Derived.OwnWalk
namespace Go.Proofs.Ytnmklgigmmlgeaa
open Go.ChangeShapes Go.WideShapes Go.RowKit
set_option linter.unusedVariables false
set_option linter.unusedSimpArgs false

theorem infoInt : (Try.prog.info? 3).map (fun i => (i.zero, i.size, i.bytes)) = some (some (.int .i64 0), 1, 8) := by kernel_rfl

def intsV (xs : List Int) : List Value := xs.map (Value.int .i64)
def lenV : Value → Nat
  | .slice _ n _ => n
  | _ => 0

theorem owns_blk {w : World} {base g n cap : Nat} {xs : List Int} (h : w.ownsRow base 3 1 (.slice (some ⟨g, 0, none⟩) n cap) n (intsV xs)) (hn : n = xs.length) : IntBlk w g xs := by
  subst hn
  obtain ⟨_, h | ⟨g', cap', cur, hv, hb, hg, hl, hm, hs, ht⟩⟩ := h
  · obtain ⟨h, _⟩ := h; cases h
  · cases hv
    refine ⟨cur, ⟨_, hg⟩, fun i hi => ?_⟩
    have h1 : (cur.toList.take (xs.length * 1))[i]? = (intsV xs)[i]? := by rw [ht]
    rw [List.getElem?_take, if_pos (by omega)] at h1
    have h2 : cur.toList[i]? = cur[i]? := by simp
    rw [← h2, h1]
    simp [intsV, List.getD, hi]

/-- What the round gives out, going back. -/
def backs (l : List Gp) (bs : List Int) (y p : Nat) : List Int := (List.range p).map fun q => bs.getD (chain l bs y q) 0

theorem backs_succ (l : List Gp) (bs : List Int) (y p : Nat) : intsV (backs l bs y (p + 1)) = intsV (backs l bs y p) ++ [.int .i64 (bs.getD (chain l bs y p) 0)] := by
  simp [intsV, backs, List.range_succ]
theorem backs_len (l : List Gp) (bs : List Int) (y p : Nat) : (backs l bs y p).length = p := by simp [backs]

/-- What cycle returns. -/
def CycRes (n : Nat) (l : List Gp) (bs : List Int) (x : Nat) (w' : World) (v : Value) : Prop :=
  ((∃ j, j < n ∧ bs.getD (chain l bs x j) 0 < 0) ∧ v = .slice none 0 0) ∨
  ((∀ j, j < n → ¬ bs.getD (chain l bs x j) 0 < 0) ∧ ∃ p, 0 < p ∧ p ≤ n ∧ chain l bs (chain l bs x n) p = chain l bs x n ∧ (∀ j, ¬ bs.getD (chain l bs (chain l bs x n) j) 0 < 0) ∧
    (∀ q, 0 < q → q < p → chain l bs (chain l bs x n) q ≠ chain l bs x n) ∧ IsInts w' v (backs l bs (chain l bs x n) p).reverse)

theorem owns_own {w : World} {base n : Nat} {v : Value} {xs : List Value} (h : w.ownsRow base 3 1 v n xs) : ∀ k, v.ownBlock = some k → base ≤ k := by
  intro k hk
  obtain ⟨_, h | ⟨g', cap', cur, hv, hb, hg, hl, hm, hs, ht⟩⟩ := h
  · rw [h.1] at hk; cases hk
  · rw [hv] at hk
    cases hk
    exact hb

theorem owns_base {w : World} {base g n cap : Nat} {xs : List Value} (h : w.ownsRow base 3 1 (.slice (some ⟨g, 0, none⟩) n cap) n xs) : base ≤ g := owns_own h g rfl

theorem backs_ok {n : Nat} {l : List Gp} {bs : List Int} (ok : ByOK n l bs) (hl : l.length ≤ 60) {y : Nat} (hy : y < n) (hr : ∀ j, ¬ bs.getD (chain l bs y j) 0 < 0) (p : Nat) : ∀ z ∈ (backs l bs y p).reverse, I64 z := by
  intro z hz
  rw [List.mem_reverse] at hz
  obtain ⟨q, _, rfl⟩ := List.mem_map.1 hz
  have h1 := hr q
  have h2 := (ok.2.1 _ (ok.chain hy (m := q) fun j _ => hr j)).resolve_left h1
  unfold I64
  omega

set_option maxRecDepth 100000 in
set_option maxHeartbeats 16000000 in
theorem cycle_any (w : World) (n : Nat) (v : Value) (l : List Gp) (g cap : Nat) (bs : List Int) (x : Nat) (hv : IsGaps w v l) (hb : IntBlk w g bs) (ok : ByOK n l bs) (hx : x < n) (hn : n ≤ 12) (hl : l.length ≤ 60) :
    Calls Try.prog 50 #[.int .i64 n, v, .slice (some ⟨g, 0, none⟩) n cap, .int .i64 x] w fun e w' => ∃ v', e = .returned v' ∧ Keep NoS w w' ∧ CycRes n l bs x w' v' := by
  have HG := Lib.hid hv
  have HB := Lib.hid hb
  have OK := Lib.hid ok
  obtain ⟨oa, cap', rfl, hm, hr, _⟩ := hv
  clear hr hb ok hm
  go_enter Try.func50, Try.ntmps50
  go_wp2
  go_loopw [12, 3] (fun s t wr => ∃ j : Nat, j ≤ n ∧ s = .int .i64 j ∧ t = .int .i64 (chain l bs x j : Nat) ∧ (∀ i, i < j → ¬ bs.getD (chain l bs x i) 0 < 0) ∧ Keep NoS w wr) (fun s _ _ => (n - intOf s).toNat)
  case atStart => exact ⟨0, by omega, rfl, rfl, fun i hi => absurd hi (by omega), by (repeat' (first | (with_reducible assumption) | (with_reducible exact HK.out) | (with_reducible exact Keep.refl _ _) | (with_reducible refine Keep.alloc ?_ _) | (with_reducible refine Keep.setCell ?_ _ (fun h => absurd h (by omega))) | (with_reducible refine Keep.drewN ?_ _) | (with_reducible refine Keep.drew ?_)))⟩
  case round =>
    obtain ⟨j, hj, rfl, rfl, hnr, KW⟩ := hrel
    have HN := Lib.hid hnr; clear hnr
    have hcn := OK.out.chain hx HN.out
    have HC : Hid (chain l bs x (j + 1) = nxt l bs (chain l bs x j)) := Lib.hid rfl
    by_cases hjn : j < n
    · have hlt : (j : Int) < (n : Int) := by omega
      have hbl := OK.out.1
      have hcell := (HB.out.keep KW).cell (i := chain l bs x j) (by omega)
      have hgl := (HB.out.keep KW).lt
      have hstep := OK.out.2.1 _ hcn
      by_cases hr : bs.getD (chain l bs x j) 0 < 0
      · have HR : Hid (∃ j, j < n ∧ bs.getD (chain l bs x j) 0 < 0) := Lib.hid ⟨j, hjn, hr⟩
        have hrd := dec_t hr
        have hcn' : (chain l bs x j : Int) < (n : Int) := by omega
        clear hr HC HN hstep
        generalize chain l bs x j = y at *
        generalize bs.getD y 0 = bv at *
        go_wp2
        go_ret
        exact ⟨_, rfl, by (repeat' (first | (with_reducible assumption) | (with_reducible exact HK.out) | (with_reducible exact Keep.refl _ _) | (with_reducible refine Keep.alloc ?_ _) | (with_reducible refine Keep.setCell ?_ _ (fun h => absurd h (by omega))) | (with_reducible refine Keep.drewN ?_ _) | (with_reducible refine Keep.drew ?_))), .inl ⟨HR.out, rfl⟩⟩
      · have HN' : Hid (∀ i, i < j + 1 → ¬ bs.getD (chain l bs x i) 0 < 0) := Lib.hid fun i hi => by
          by_cases hij : i = j
          · rw [hij]; exact hr
          · exact HN.out i (by omega)
        obtain ⟨e, he⟩ : ∃ e : Nat, bs.getD (chain l bs x j) 0 = (e : Int) := ⟨(bs.getD (chain l bs x j) 0).toNat, by omega⟩
        have hel : e < l.length := by have := hstep.resolve_left hr; rw [he] at this; simpa using this
        have hel' : (e : Int) < (l.length : Int) := by omega
        obtain ⟨bg, og, cg, hsl, hbg, a0, a1, a2⟩ := (HG.out.keep KW).at hel
        cases hsl
        have hB := (OK.out.2.2 _ (List.getElem_mem hel))
        obtain ⟨b, hbe⟩ : ∃ b : Nat, l[e].B = (b : Int) := ⟨l[e].B.toNat, by omega⟩
        have HX : Hid (chain l bs x (j + 1) = b) := Lib.hid (by
          rw [HC.out]; unfold nxt; rw [he, List.getD_eq_getElem?_getD, Int.toNat_natCast, List.getElem?_eq_getElem hel]
          simp [hbe])
        rw [he] at hcell
        rw [hbe] at a1
        have hcn' : (chain l bs x j : Int) < (n : Int) := by omega
        have hen : ¬ (e : Int) < 0 := by omega
        clear hr HC HN hstep he hB hbe a0 a2 hcn
        generalize chain l bs x j = y at *
        go_wp2
        go_roundw
        case rel => exact ⟨j + 1, by omega, by go_num, by rw [HX.out], HN'.out, KW⟩
        case measure => simp [intOf]; omega
    · have hlt : ¬ (j : Int) < (n : Int) := by omega
      obtain rfl : j = n := by omega
      obtain ⟨p, p0, pn, pc, pr, pm⟩ := chain_round OK.out hx HN.out
      have HP := Lib.hid (And.intro pc (And.intro pr pm))
      clear pc pr pm HC
      have HNN := Lib.hid HN.out
      clear HN
      generalize hy : chain l bs x j = y at *
      have HY := Lib.hid hy; clear hy
      have hyn : (y : Int) < (j : Int) := by omega
      obtain ⟨wa, rfl⟩ : ∃ W : World, W = wr := ⟨_, rfl⟩
      obtain ⟨i0, hi0, hz0, hz1, hz2⟩ := info_parts infoInt
      go_wp2
      go_loopw [10, 9] (fun s t wr => ∃ q : Nat, q < p ∧ s = .int .i64 (chain l bs y q : Nat) ∧ wr.ownsRow w.heap.size 3 1 t q (intsV (backs l bs y q)) ∧ lenV t = q ∧ Keep NoS w wr) (fun _ t _ => p - lenV t)
      case atStart => exact ⟨0, p0, rfl, World.ownsRow_nil _ _ _ _, rfl, by (repeat' (first | (with_reducible assumption) | (with_reducible exact HK.out) | (with_reducible exact Keep.refl _ _) | (with_reducible refine Keep.alloc ?_ _) | (with_reducible refine Keep.setCell ?_ _ (fun h => absurd h (by omega))) | (with_reducible refine Keep.drewN ?_ _) | (with_reducible refine Keep.drew ?_)))⟩
      case round =>
        rename_i tv wr
        obtain ⟨q, hq, rfl, hown, hlv, KR⟩ := hrel
        have hr : ¬ bs.getD (chain l bs y q) 0 < 0 := by have := HP.out.2.1 q; omega
        have hcn := OK.out.chain (x := y) (by omega) (m := q) fun i _ => by have := HP.out.2.1 i; omega
        have hbl := OK.out.1
        have hcell := (HB.out.keep KR).cell (i := chain l bs y q) (by omega)
        have hgl := (HB.out.keep KR).lt
        have hstep := (OK.out.2.1 _ hcn).resolve_left hr
        obtain ⟨e, he⟩ : ∃ e : Nat, bs.getD (chain l bs y q) 0 = (e : Int) := ⟨(bs.getD (chain l bs y q) 0).toNat, by omega⟩
        have hel : e < l.length := by rw [he] at hstep; simpa using hstep
        have hel' : (e : Int) < (l.length : Int) := by omega
        have hB := (OK.out.2.2 _ (List.getElem_mem hel))
        obtain ⟨b, hbe⟩ : ∃ b : Nat, l[e].B = (b : Int) := ⟨l[e].B.toNat, by omega⟩
        have HX : Hid (chain l bs y (q + 1) = b) := Lib.hid (by
          rw [chain]; unfold nxt; rw [he, List.getD_eq_getElem?_getD, Int.toNat_natCast, List.getElem?_eq_getElem hel]
          simp [hbe])
        have HS : Hid (intsV (backs l bs y (q + 1)) = intsV (backs l bs y q) ++ [.int .i64 (e : Int)]) := Lib.hid (by rw [backs_succ, he])
        have HC2 : Hid (∀ w1, Keep NoS w w1 → w1.cell? ⟨g, chain l bs y q, none⟩ = some (.int .i64 (e : Int)) ∧ g < w1.heap.size) := Lib.hid fun w1 k1 => by
          have := (HB.out.keep k1).cell (i := chain l bs y q) (by omega)
          rw [he] at this
          exact ⟨this, (HB.out.keep k1).lt⟩
        have HG2 : Hid (∀ w1, Keep NoS w w1 → ∃ bg og cg, Value.slice oa l.length cap' = .slice (some ⟨bg, og, none⟩) l.length cg ∧ w1.cell? ⟨bg, og + e * 3 + 1, none⟩ = some (.int .i64 (b : Int))) := Lib.hid fun w1 k1 => by
          obtain ⟨bg, og, cg, hsl, hbg, a0, a1, a2⟩ := (HG.out.keep k1).at hel
          exact ⟨bg, og, cg, hsl, by rw [a1, hbe]⟩
        have HO := Lib.hid (owns_own hown)
        have HLV := Lib.hid hlv
        clear hlv
        rw [he] at hcell
        have hcn' : (chain l bs y q : Int) < (j : Int) := by omega
        have hen : ¬ (e : Int) < 0 := by omega
        clear hr hstep he hB hbe
        generalize chain l bs y q = xq at *
        go_wp2_with (first
          | (at_builtin; refine wpList_append_lies _ rfl _ _ 40 rfl w.heap.size 3 i0 (.int .i64 0) 1 8 Try.underlying40 hi0 hz0 hz1 hz2 rfl (by decide) _ q _ rfl (hown.alloc _) ⟨wr.heap.size, 0, none⟩ 1 1 [.int .i64 (e : Int)] rfl rfl ?c1 ?c2 (by decide) ?c3 ?c4 ?c5 (wr.heap.size + 1) ?c6 ?_)
          | fail)
        case c2 => rfl
        case c3 => unfold maxLen; omega
        case c4 => omega
        case c5 => have := KR.size; simp; omega
        intro g2 cap2 w1 hown1 hgrow hat hlt2
        have hsz := KR.size
        have bel : Below w.heap.size w w1 := ((Keep.bel KR).alloc hsz _).trans (grown_keep hgrow w.heap.size (by simp; omega) HO.out)
        have K1 : Keep NoS w w1 := Keep.of_below bel (Nat.le_refl _)
        rw [← HS.out] at hown1
        have HO1 := Lib.hid hown1
        clear hgrow hat bel hown1 hcell hgl
        obtain ⟨hcell, hgl⟩ := HC2.out w1 K1
        obtain ⟨bg, og, cg, hsl, a1⟩ := HG2.out w1 K1
        cases hsl
        by_cases hby : b = y
        · have e1 : ((b : Int) == (y : Int)) = true := by rw [beq_iff_eq]; omega
          have hqp : q + 1 = p := by
            apply Classical.byContradiction
            intro h
            exact HP.out.2.2 (q + 1) (by omega) (by omega) (by rw [HX.out]; exact hby)
          have HV : Hid (∀ w2, IntBlk w2 g2 (backs l bs y p).reverse → Keep (InB g2) w1 w2 → Keep NoS w w2 ∧ IsInts w2 (.slice (some ⟨g2, 0, none⟩) (q + 1) cap2) (backs l bs y p).reverse) := Lib.hid fun w2 hb2 k2 => by
            refine ⟨K1.trans k2 fun n' o' hn h => ?_, ?_⟩
            · have h' : n' = g2 := h
              have := owns_base HO1.out
              omega
            · have := hb2.ints cap2 (by rw [List.length_reverse, backs_len]; unfold maxLen; omega) (backs_ok OK.out hl (by omega) (fun i => by have := HP.out.2.1 i; omega) p)
              rw [List.length_reverse, backs_len] at this
              rw [hqp]
              exact this
          have HRV : Hid (Calls Try.prog 75 #[.slice (some ⟨g2, 0, none⟩) (q + 1) cap2] w1 fun e w' => e = .returned (.tuple #[]) ∧ IntBlk w' g2 (backs l bs y p).reverse ∧ Keep (InB g2) w1 w') := Lib.hid (by
            have := reverse_any w1 g2 cap2 (backs l bs y p) (by rw [← hqp]; exact owns_blk HO1.out (backs_len l bs y (q + 1)).symm) (by rw [backs_len]; omega) (by rw [backs_len]; omega)
            rw [backs_len, ← hqp] at this
            rw [← hqp]
            exact this)
          clear hqp hby
          go_wp2_with fail
          refine HRV.out.mono ?_
          rintro e' w2 ⟨rfl, hb2, k2⟩
          obtain ⟨hv1, hv2⟩ := HV.out w2 hb2 k2
          clear HV HRV
          go_wp2
          go_ret
          exact ⟨_, rfl, hv1, .inr ⟨fun i hi => by have := HNN.out i hi; omega, p, p0, pn, by rw [HY.out]; exact HP.out.1, fun i => by rw [HY.out]; have := HP.out.2.1 i; omega, by rw [HY.out]; exact HP.out.2.2, by rw [HY.out]; exact hv2⟩⟩
        · have e1 : ((b : Int) == (y : Int)) = false := by rw [beq_eq_false_iff_ne]; omega
          have hqp : q + 1 < p := by
            apply Classical.byContradiction
            intro h
            have h' : q + 1 = p := by omega
            exact hby (by rw [← HX.out, h']; exact HP.out.1)
          go_wp2
          go_roundw
          case rel => exact ⟨q + 1, hqp, by rw [HX.out], HO1.out, rfl, K1⟩
          case measure => rw [HLV.out]; simp only [lenV]; omega
end Go.Proofs.Ytnmklgigmmlgeaa
