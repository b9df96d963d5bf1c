/- gap.Do. -/
import Derived.Test.YtnmklgigmmlgeaaGapDoP
import Derived.IntWalk
namespace Go.Proofs.Ytnmklgigmmlgeaa
open Go.ChangeShapes Go.WideShapes Go.RowKit
set_option linter.unusedVariables false
set_option linter.unusedSimpArgs false

def okF : Value := .agg #[.int .i64 0, .int .i64 0]

/-- What gap.Do returns. -/
def DoRes (n : Int) (l : List Gp) (w' : World) (v : Value) : Prop :=
  (∃ c a, gapsW n l = (c, a) ∧ c ≠ 0 ∧ v = .tuple #[.slice none 0 0, .slice none 0 0, .agg #[.int .i64 c, .int .i64 a]]) ∨
  (gapsW n l = (0, 0) ∧ ∃ N : Nat, n = (N : Int) ∧ ((∃ t, t ≤ N ∧ (rnds N l (t + 1)).last < 0 ∧ ∃ vv, IsInts w' vv (rnds N l (t + 1)).vals ∧ v = .tuple #[vv, .slice none 0 0, okF]) ∨
    ((∀ t, t ≤ N → ¬ (rnds N l (t + 1)).last < 0) ∧ ∃ vr, CycRes N l (rnds N l (N + 1)).bys (rnds N l (N + 1)).last.toNat w' vr ∧ v = .tuple #[.slice none 0 0, vr, okF])))

theorem made_ints (n : Nat) : (madeCells (Value.int .i64 0).cells (n * 1)).toList = intsV (List.replicate n 0) := by
  apply List.ext_getElem
  · simp [madeCells, intsV]
  · intro i h1 h2
    simp [madeCells, intsV, Value.cells, Nat.mod_one]

theorem minus_step {n k : Nat} (h : k < n) : (List.replicate k (-1 : Int) ++ List.replicate (n - k) 0).set k (-1) = List.replicate (k + 1) (-1) ++ List.replicate (n - (k + 1)) 0 := by
  apply List.ext_getElem
  · simp; omega
  · intro i h1 h2
    simp only [List.getElem_set, List.getElem_append, List.length_replicate, List.getElem_replicate]
    by_cases e1 : k = i
    · rw [if_pos e1, dif_pos (by omega)]
    · rw [if_neg e1]
      by_cases e2 : i < k
      · rw [dif_pos e2, dif_pos (by omega)]
      · rw [dif_neg e2, dif_neg (by omega)]

theorem cell_same {w : World} {B i : Nat} {A : Array Value} {u : Value} (h : Blk w B A) (hA : A[i]? = some u) : Blk (w.setCell ⟨B, i, none⟩ u) B A ∧ ∀ a, (w.setCell ⟨B, i, none⟩ u).cell? a = w.cell? a := by
  have hs : A.setIfInBounds i u = A := by
    apply Array.ext_getElem?
    intro j
    rw [Array.getElem?_setIfInBounds]
    by_cases hij : i = j
    · subst hij
      obtain ⟨hlt, hA'⟩ := Array.getElem?_eq_some_iff.1 hA
      simp [hlt, hA']
    · simp [hij]
  obtain ⟨t, h⟩ := h
  have h1 := Go.Joins.block_setCell h u (i := i)
  rw [hs] at h1
  refine ⟨⟨t, h1⟩, fun a => ?_⟩
  have h2 : (w.setCell ⟨B, i, none⟩ u).heap[a.block]? = w.heap[a.block]? := by
    by_cases hab : a.block = B
    · rw [hab, h1, h]
    · exact heap_setCell_other _ _ _ _ hab
  exact World.cell?_of_block h2
theorem cell_put {w : World} {g i b o : Nat} {u v : Value} (h : w.cell? ⟨b, o, none⟩ = some v) (hne : ¬ b = g) : (w.setCell ⟨g, i, none⟩ u).cell? ⟨b, o, none⟩ = some v := by
  rw [World.cell?_setCell_other _ _ _ _ (fun e => hne (by injection e with e1; exact e1.symm))]
  exact h
theorem StOK.i64 {n : Nat} {l : List Gp} {c : Nat} {s : St} (h : StOK n l c s) (hc : c ≤ 1000000) : ∀ z ∈ s.vals, I64 z := by
  intro z hz
  obtain ⟨i, hi, rfl⟩ := List.mem_iff_getElem.1 hz
  have := h.vb i (by rw [← h.vl]; exact hi)
  rw [List.getD_eq_getElem?_getD, List.getElem?_eq_getElem hi] at this
  simp only [Option.getD_some] at this
  unfold I64
  omega
theorem cell_same2 {w : World} {B : Nat} {u v : Value} (h : Blk w B #[u, v]) (a : Addr) : ((w.setCell ⟨B, 0, none⟩ u).setCell ⟨B, 1, none⟩ v).cell? a = w.cell? a := by
  obtain ⟨h1, h2⟩ := cell_same h (i := 0) (u := u) rfl
  obtain ⟨h3, h4⟩ := cell_same h1 (i := 1) (u := v) rfl
  rw [h4, h2]
theorem IsInts.same {w w' : World} {v : Value} {l : List Int} (h : IsInts w v l) (hc : ∀ a, w'.cell? a = w.cell? a) (hs : w.heap.size ≤ w'.heap.size) : IsInts w' v l := by
  obtain ⟨oa, cap, h1, h2, h3, h4⟩ := h
  refine ⟨oa, cap, h1, h2, h3, fun hne => ?_⟩
  obtain ⟨b, o, e, hb, hq⟩ := h4 hne
  exact ⟨b, o, e, by omega, fun i x hx => by rw [hc]; exact hq i x hx⟩
theorem CycRes.same {n : Nat} {l : List Gp} {bs : List Int} {x : Nat} {w w' : World} {v : Value} (h : CycRes n l bs x w v) (hc : ∀ a, w'.cell? a = w.cell? a) (hs : w.heap.size ≤ w'.heap.size) : CycRes n l bs x w' v := by
  rcases h with h | ⟨h, p, h1, h2, h3, h4, h5, h6⟩
  · exact .inl h
  · exact .inr ⟨h, p, h1, h2, h3, h4, h5, h6.same hc hs⟩

theorem blk_keepS {S : Nat → Nat → Prop} {w w' : World} {k : Nat} {A : Array Value} (h : Blk w k A) (hk : Keep S w w') (hS : ¬ S k 0) (hT : ∀ i, S k i → S k 0 := by intro i h; exact h) : Blk w' k A := by
  obtain ⟨t, h⟩ := h
  exact ⟨t, by rw [hk.block k (lt_of_heap h) fun o ho => hS (hT o ho)]; exact h⟩

set_option maxRecDepth 100000 in
set_option maxHeartbeats 16000000 in
theorem do_any (w : World) (n : Int) (v : Value) (l : List Gp) (h : IsGaps w v l) :
    Calls Try.prog 23 #[.int .i64 n, v] w fun e w' => ∃ v', e = .returned v' ∧ Keep NoS w w' ∧ DoRes n l w' v' := by
  have HG := Lib.hid h
  obtain ⟨oa, cap, rfl, hm, hr, _⟩ := h
  clear hr
  unfold maxLen at hm
  by_cases h0 : (gapsW n l).1 = 0
  · obtain ⟨e0, hn0, hn1, hl, hgs⟩ := gaps_ok h0
    obtain ⟨N, rfl⟩ : ∃ N : Nat, n = (N : Int) := ⟨n.toNat, by omega⟩
    have HS : Hid (GpsOK N l) := Lib.hid ⟨by omega, hl, hgs⟩
    have E0 := Lib.hid e0
    have F0 := Lib.hid (by rw [e0]; rfl : faultV (gapsW N l).1 (gapsW N l).2 = .agg #[.int .i64 0, .int .i64 0])
    clear h0 hgs e0
    obtain ⟨i0, hi0, hz0, hz1, hz2⟩ := info_parts infoInt
    go_enter Try.func23, Try.ntmps23
    go_wp2_with fail
    refine (gapCheck_any _ N _ l (HG.out.keep (by (repeat' (first | (with_reducible assumption) | (with_reducible exact HK.out) | (with_reducible exact Keep.refl _ _) | (with_reducible refine Keep.alloc ?_ _) | (with_reducible refine Keep.setCell ?_ _ (fun h => absurd h (by omega))) | (with_reducible refine Keep.drewN ?_ _) | (with_reducible refine Keep.drew ?_)))))).mono ?_
    rintro e w1 ⟨rfl, hk1⟩
    have K1 : Keep NoS w w1 := Keep.trans (by (repeat' (first | (with_reducible assumption) | (with_reducible exact HK.out) | (with_reducible exact Keep.refl _ _) | (with_reducible refine Keep.alloc ?_ _) | (with_reducible refine Keep.setCell ?_ _ (fun h => absurd h (by omega))) | (with_reducible refine Keep.drewN ?_ _) | (with_reducible refine Keep.drew ?_)))) hk1 fun _ _ _ h => h
    have B1 : Blk w1 w.heap.size #[.int .i64 0, .int .i64 0] := Blk.keep (by (repeat (first | (with_reducible assumption) | (refine blk_at _ _ ?_; simp; done) | (refine Blk.old ?_ _)))) hk1
    have hlt1 := B1.lt
    clear hk1
    rw [F0.out]
    go_upto_region 4 with fail
    have K2 : Keep NoS w (w1.alloc (.cells #[.int .i64 0, .int .i64 0] 25)) := by (repeat' (first | (with_reducible assumption) | (with_reducible exact HK.out) | (with_reducible exact Keep.refl _ _) | (with_reducible refine Keep.alloc ?_ _) | (with_reducible refine Keep.setCell ?_ _ (fun h => absurd h (by omega))) | (with_reducible refine Keep.drewN ?_ _) | (with_reducible refine Keep.drew ?_)))
    have B2 : Blk (w1.alloc (.cells #[.int .i64 0, .int .i64 0] 25)) w.heap.size #[.int .i64 0, .int .i64 0] := by (repeat (first | (with_reducible assumption) | (refine blk_at _ _ ?_; simp; done) | (refine Blk.old ?_ _)))
    clear K1 B1 hlt1
    generalize w1.alloc (.cells #[.int .i64 0, .int .i64 0] 25) = w2 at *
    have hs2 := B2.lt
    obtain ⟨w3, hr3, ho3, hg3⟩ := run_make_full (P := Try.prog) w2 w.heap.size 40 3 i0 (.int .i64 0) 1 Try.underlying40 hi0 hz0 hz1 .i64 .i64 N (by rw [hz2]; omega) (by unfold maxLen; omega) (by omega)
    rw [made_ints] at ho3
    have P3 := owns_blk ho3 (by simp)
    have Q3 : w2.heap.size ≠ w.heap.size := by omega
    have L3 : Below w2.heap.size w2 w3 := grown_keep hg3 w2.heap.size (Nat.le_refl _) (by simp)
    obtain ⟨w4, hr4, ho4, hg4⟩ := run_make_full (P := Try.prog) w3 w.heap.size 40 3 i0 (.int .i64 0) 1 Try.underlying40 hi0 hz0 hz1 .i64 .i64 N (by rw [hz2]; omega) (by unfold maxLen; omega) (by have := L3.size; omega)
    rw [made_ints] at ho4
    have P4 := owns_blk ho4 (by simp)
    have L4 : Below w3.heap.size w3 w4 := grown_keep hg4 w3.heap.size (Nat.le_refl _) (by simp)
    have J3 : Keep NoS w2 w3 := Keep.of_below L3 (Nat.le_refl _)
    have J4 : Keep NoS w3 w4 := Keep.of_below L4 (Nat.le_refl _)
    have KK4 : Keep NoS w w4 := (K2.trans J3 fun _ _ _ h => h).trans J4 fun _ _ _ h => h
    have BB4 : Blk w4 w.heap.size #[.int .i64 0, .int .i64 0] := (B2.keep J3).keep J4
    have PP3 := P3.keep J4
    have D3 : w2.heap.size < w3.heap.size := P3.lt
    clear ho3 ho4 hg3 hg4 L3 L4 P3 J3 J4 K2 B2
    generalize hgv : w2.heap.size = gv at *
    generalize hgb : w3.heap.size = gb at *
    have HBB := Lib.hid BB4
    have HK4 := Lib.hid KK4
    have HP3 := Lib.hid PP3
    have HP4 := Lib.hid P4
    clear BB4 KK4 PP3 P4
    go_wp2
    clear hr3 hr4
    go_loopw [26] (fun s wr => ∃ k : Nat, k ≤ N ∧ s = .int .i64 k ∧ Keep (InB gb) w4 wr ∧ IntBlk wr gb (List.replicate k (-1) ++ List.replicate (N - k) 0)) (fun s _ => (N - intOf s).toNat)
    case atStart => exact ⟨0, by omega, rfl, Keep.refl _ _, by simpa using HP4.out⟩
    case round =>
      obtain ⟨k, hk, rfl, hkp, hbk⟩ := hrel
      have HKP := Lib.hid hkp; clear hkp
      by_cases hlt : k < N
      · have hlt' : (k : Int) < (N : Int) := by omega
        have hc := hbk.cell (i := k) (by simp; omega)
        have hf := hbk.free k
        have hgl := hbk.lt
        have HBK := Lib.hid hbk; clear hbk
        generalize (List.replicate k (-1 : Int) ++ List.replicate (N - k) 0).getD k 0 = z at *
        go_wp2
        go_roundw
        case rel =>
          refine ⟨k + 1, by omega, by go_num, (HKP.out).setCell _ fun _ => rfl, ?_⟩
          rw [← minus_step hlt]
          exact HBK.out.set _
        case measure => simp [intOf]; omega
      · have hlt' : ¬ (k : Int) < (N : Int) := by omega
        obtain rfl : k = N := by omega
        have HB5 : Hid (IntBlk wr gb (List.replicate k (-1))) := Lib.hid (by simpa using hbk)
        have HV5 : Hid (IntBlk wr gv (List.replicate k 0)) := Lib.hid (by
          obtain ⟨A, hA, hq⟩ := HP3.out
          exact ⟨A, blk_keepS hA HKP.out (by show ¬ gv = gb; omega), hq⟩)
        have HR5 : Hid (Blk wr w.heap.size #[.int .i64 0, .int .i64 0]) := Lib.hid (blk_keepS HBB.out HKP.out (by show ¬ w.heap.size = gb; omega))
        have HK5 : Hid (Keep NoS w wr) := Lib.hid (HK4.out.trans HKP.out fun n o hn h => by have h' : n = gb := h; omega)
        clear HP3 HP4 HKP hbk HBB HK4
        obtain ⟨w5, rfl⟩ : ∃ W : World, W = wr := ⟨_, rfl⟩
        go_wp2
        go_loopw [35, 5, 4] (fun s z q wr => ∃ t : Nat, t ≤ k + 1 ∧ s = .int .i64 t ∧ q = .slice (some ⟨gv, 0, none⟩) k k ∧ (∀ u, u < t → ¬ (rnds k l (u + 1)).last < 0) ∧ IntBlk wr gv (rnds k l t).vals ∧ IntBlk wr gb (rnds k l t).bys ∧ Blk wr w.heap.size #[.int .i64 0, .int .i64 0] ∧ Keep NoS w wr ∧ (0 < t → CycRes k l (rnds k l t).bys (rnds k l t).last.toNat wr z)) (fun s _ _ _ => (k + 1 - intOf s).toNat)
        case atStart => exact ⟨0, by omega, rfl, rfl, fun u hu => absurd hu (by omega), HV5.out, HB5.out, HR5.out, HK5.out, fun h => absurd h (by omega)⟩
        case round =>
          obtain ⟨t, ht, rfl, rfl, hch, hv, hb, hr, hkw, hcy⟩ := hrel
          have HCH := Lib.hid hch
          have HV := Lib.hid hv
          have HB := Lib.hid hb
          have HR := Lib.hid hr
          have HKW := Lib.hid hkw
          have HCY := Lib.hid hcy
          clear hch hv hb hr hkw hcy HV5 HB5 HR5 HK5
          by_cases hlt : t < k + 1
          · have hlt' : (t : Int) < (k : Int) + 1 := by omega
            obtain ⟨w6, rfl⟩ : ∃ W : World, W = wr := ⟨_, rfl⟩
            go_wp2
            go_loopw [39, 10] (fun s z wr => ∃ j : Nat, j ≤ l.length ∧ s = .int .i64 j ∧ z = .int .i64 (pass l ⟨(rnds k l t).vals, (rnds k l t).bys, -1⟩ j).last ∧ IntBlk wr gv (pass l ⟨(rnds k l t).vals, (rnds k l t).bys, -1⟩ j).vals ∧ IntBlk wr gb (pass l ⟨(rnds k l t).vals, (rnds k l t).bys, -1⟩ j).bys ∧ Blk wr w.heap.size #[.int .i64 0, .int .i64 0] ∧ Keep NoS w wr) (fun s _ _ => (l.length - intOf s).toNat)
            case atStart => exact ⟨0, by omega, rfl, rfl, HV.out, HB.out, HR.out, HKW.out⟩
            case round =>
              obtain ⟨j, hj, rfl, rfl, hv, hb, hr, hkw⟩ := hrel
              have hsl := (rnds_ok HS.out t).clear
              have hok := pass_ok HS.out hsl j hj
              have hsucc : pass l ⟨(rnds k l t).vals, (rnds k l t).bys, -1⟩ (j + 1) = relax (l.getD j ⟨0, 0, 0⟩) j (pass l ⟨(rnds k l t).vals, (rnds k l t).bys, -1⟩ j) := rfl
              have HPS := Lib.hid hsucc
              clear hsl hsucc
              by_cases hjl : j < l.length
              · have hlt2 : (j : Int) < (l.length : Int) := by omega
                obtain ⟨bg, og, cg, hsl, hbg, a0, a1, a2⟩ := (HG.out.keep hkw).at hjl
                cases hsl
                have hgj : l.getD j ⟨0, 0, 0⟩ = l[j] := by rw [List.getD_eq_getElem?_getD, List.getElem?_eq_getElem hjl]; rfl
                obtain ⟨⟨ga0, ga1⟩, ⟨gb0, gb1⟩, gy0, gy1⟩ := HS.out.2.2 _ (List.getElem_mem hjl)
                rw [hgj] at HPS
                clear hgj
                generalize hgg : l[j] = gp at *
                clear hgg
                obtain ⟨A, B, By⟩ := gp
                simp only at a0 a1 a2 ga0 ga1 gb0 gb1 gy0 gy1
                obtain ⟨A, rfl⟩ : ∃ m : Nat, A = (m : Int) := ⟨A.toNat, by omega⟩
                obtain ⟨B, rfl⟩ : ∃ m : Nat, B = (m : Int) := ⟨B.toNat, by omega⟩
                generalize pass l ⟨(rnds k l t).vals, (rnds k l t).bys, -1⟩ j = S at *
                have hva := hok.vb A (by omega)
                have hvb := hok.vb B (by omega)
                have hca := hv.cell (i := A) (by rw [hok.vl]; omega)
                have hcb := hv.cell (i := B) (by rw [hok.vl]; omega)
                have hgl := hv.lt
                have hbl := hb.lt
                have hcby := hb.cell (i := A) (by rw [hok.bl]; omega)
                generalize S.bys.getD A 0 = byA at hcby
                have hgne : ¬ gv = gb := by omega
                have hgne' : ¬ gb = gv := by omega
                have hvf := hv.free A
                have hbf := hb.free A
                have HV2 := Lib.hid hv
                have HB2 := Lib.hid hb
                have HR2 := Lib.hid hr
                have HKW2 := Lib.hid hkw
                have HOK := Lib.hid hok
                have HRX : Hid (relax ⟨A, B, By⟩ j S = if S.vals.getD B 0 + By < S.vals.getD A 0 then ⟨S.vals.set A (S.vals.getD B 0 + By), S.bys.set A j, A⟩ else S) := Lib.hid (by unfold relax; simp)
                have hv1 : -1000000000 ≤ S.vals.getD B 0 + By := by omega
                have hv2 : S.vals.getD B 0 + By ≤ 1000000000 := by omega
                have hA1 : (A : Int) < (k : Int) := by omega
                have hB1 : (B : Int) < (k : Int) := by omega
                have hbb : ¬ wr.heap.size = bg := by omega
                have hbv : ¬ wr.heap.size = gv := by omega
                have hbB : ¬ wr.heap.size = gb := by omega
                clear hv hb hr hkw hok hva hvb
                generalize hxa : S.vals.getD A 0 = va at *
                generalize hxb : S.vals.getD B 0 = vb at *
                have HXA := Lib.hid hxa
                have HXB := Lib.hid hxb
                clear hxa hxb
                by_cases hlow : vb + By < va
                · have e1 := dec_t hlow
                  have HN := Lib.hid (HPS.out.trans (HRX.out.trans (if_pos hlow)))
                  clear HRX HPS hlow
                  go_wp2
                  go_quiet (fail)
                  go_wp2
                  refine wp_region_two (fun w' => (w'.cell? ⟨wr.heap.size, 0, none⟩ = some (.int .i64 A) ∧ w'.cell? ⟨wr.heap.size, 1, none⟩ = some (.int .i64 B) ∧ w'.cell? ⟨wr.heap.size, 2, none⟩ = some (.int .i64 By)) ∧ w'.cell? ⟨gv, B, none⟩ = some (.int .i64 vb))
                    (fun w' => w'.cell? ⟨wr.heap.size, 0, none⟩ = some (.int .i64 A) ∧ w'.cell? ⟨wr.heap.size, 1, none⟩ = some (.int .i64 B) ∧ w'.cell? ⟨wr.heap.size, 2, none⟩ = some (.int .i64 By))
                    [0, 1, 2, 3, 4, 5, 6, 7, 8, 9, 11, 12, 14, 15, 16, 18, 19, 20, 21] [([0, 1, 2, 3, 4, 5, 6, 7, 8, 9, 11, 12, 14, 15, 16], [10, 13, 17], 18), ([19], [], 20)] ([21], []) (by kernel_rfl) (by kernel_rfl) (fun _ h => h.1) (by simp [hcb, hgl, hbv, World.cell?_alloc_lt]) ?_
                  intro X Y W V hne1 hne2 hF hcl hG hgg
                  have hx0 := fun x => (hF x).1.1
                  have hx1 := fun x => (hF x).1.2.1
                  have hx2 := fun x => (hF x).1.2.2
                  have hx3 := fun x => (hF x).2
                  have hy0 := fun x => (hG x).1
                  have hy1 := fun x => (hG x).2.1
                  have hy2 := fun x => (hG x).2.2
                  have HGG := Lib.hid hgg
                  clear hF hcl hG hgg
                  simp only [wpPlanD, pickOps, List.getElem?_toArray, List.getElem?_cons_zero, List.getElem?_cons_succ, Bool.false_eq_true, if_false]
                  (repeat (quiet_step (fail))); repeat (refine wpQuiet_nil ?_)
                  refine wpOp_at (by simp only [List.getElem?_toArray, List.getElem?_cons_zero, List.getElem?_cons_succ]; rfl) (by rfl) (fun K hK => ?_)
                  go_simp
                  refine hK _ _ ⟨⟨fun h => (by simp at h), HGG.out _ ?_⟩, ?_⟩
                  · exact ⟨cell_put (by simp) hbv, cell_put (by simp) hbv, cell_put (by simp) hbv⟩
                  clear hK K
                  (repeat (quiet_step (fail))); repeat (refine wpQuiet_nil ?_)
                  refine wpOp_at (by simp only [List.getElem?_toArray, List.getElem?_cons_zero, List.getElem?_cons_succ]; rfl) (by rfl) (fun K hK => ?_)
                  go_simp
                  refine hK _ _ ⟨⟨fun h => (by simp at h), HGG.out _ ?_⟩, ?_⟩
                  · exact ⟨cell_put (cell_put (by simp) hbv) hbB, cell_put (cell_put (by simp) hbv) hbB, cell_put (cell_put (by simp) hbv) hbB⟩
                  clear hK K
                  (repeat (quiet_step (fail))); repeat (refine wpQuiet_nil ?_)
                  refine NoPanic.normal ?_
                  go_wp2
                  go_roundw
                  case rel =>
                    have hwv : ¬ w.heap.size = gv := fun h => Q3 h.symm
                    have hwb : ¬ w.heap.size = gb := by omega
                    have hk2 : Keep NoS wr ((wr.alloc (.cells #[.int .i64 A, .int .i64 B, .int .i64 By] 44)).drewN (nq + 1)) := ((Keep.refl NoS wr).alloc _).drewN _
                    have hk3 := HKW2.out.trans hk2 fun _ _ _ h => h
                    refine ⟨j + 1, by omega, by go_num, by rw [HN.out], ?_, ?_, ?_, ?_⟩
                    · rw [HN.out]; exact ((HV2.out.keep hk2).set _).setOther _ _ hgne
                    · rw [HN.out]; exact ((HB2.out.keep hk2).setOther _ _ hgne').set _
                    · exact ((HR2.out.keep hk2).setOther _ _ hwv).setOther _ _ hwb
                    · exact (hk3.setCell _ fun h => absurd h (by omega)).setCell _ fun h => absurd h (by omega)
                  case measure => simp [intOf]; omega
                · have e1 := dec_f hlow
                  have HN := Lib.hid (HPS.out.trans (HRX.out.trans (if_neg hlow)))
                  clear HRX HPS hlow
                  go_wp2
                  go_quiet (fail)
                  go_wp2
                  go_roundw
                  case rel =>
                    have hk2 : Keep NoS wr (wr.alloc (.cells #[.int .i64 A, .int .i64 B, .int .i64 By] 44)) := (Keep.refl NoS wr).alloc _
                    exact ⟨j + 1, by omega, by go_num, by rw [HN.out], by rw [HN.out]; exact HV2.out.keep (by (repeat' (first | (with_reducible assumption) | (with_reducible exact HK.out) | (with_reducible exact Keep.refl _ _) | (with_reducible refine Keep.alloc ?_ _) | (with_reducible refine Keep.setCell ?_ _ (fun h => absurd h (by omega))) | (with_reducible refine Keep.drewN ?_ _) | (with_reducible refine Keep.drew ?_)))), by rw [HN.out]; exact HB2.out.keep (by (repeat' (first | (with_reducible assumption) | (with_reducible exact HK.out) | (with_reducible exact Keep.refl _ _) | (with_reducible refine Keep.alloc ?_ _) | (with_reducible refine Keep.setCell ?_ _ (fun h => absurd h (by omega))) | (with_reducible refine Keep.drewN ?_ _) | (with_reducible refine Keep.drew ?_)))), HR2.out.keep (by (repeat' (first | (with_reducible assumption) | (with_reducible exact HK.out) | (with_reducible exact Keep.refl _ _) | (with_reducible refine Keep.alloc ?_ _) | (with_reducible refine Keep.setCell ?_ _ (fun h => absurd h (by omega))) | (with_reducible refine Keep.drewN ?_ _) | (with_reducible refine Keep.drew ?_)))), HKW2.out.trans (by (repeat' (first | (with_reducible assumption) | (with_reducible exact HK.out) | (with_reducible exact Keep.refl _ _) | (with_reducible refine Keep.alloc ?_ _) | (with_reducible refine Keep.setCell ?_ _ (fun h => absurd h (by omega))) | (with_reducible refine Keep.drewN ?_ _) | (with_reducible refine Keep.drew ?_)))) fun _ _ _ h => h⟩
                  case measure => simp [intOf]; omega
              · have hlt2 : ¬ (j : Int) < (l.length : Int) := by omega
                obtain rfl : j = l.length := by omega
                have hturn : Hid (rnds k l (t + 1) = pass l ⟨(rnds k l t).vals, (rnds k l t).bys, -1⟩ l.length) := Lib.hid rfl
                obtain ⟨c0, c1, f0, f1, l0⟩ := hr.two
                have HOK := Lib.hid hok
                have HV2 := Lib.hid hv
                have HB2 := Lib.hid hb
                have HR2 := Lib.hid hr
                have HKW2 := Lib.hid hkw
                clear HPS hok hv hb hr hkw HV HB HR HKW HCY
                generalize pass l ⟨(rnds k l t).vals, (rnds k l t).bys, -1⟩ l.length = S at *
                generalize hla : S.last = la at *
                have hlb := HOK.out.lb
                rw [hla] at hlb
                have HLA := Lib.hid hla
                clear hla
                by_cases hneg : la < 0
                · have e1 := dec_t hneg
                  clear hlb
                  go_wp2
                  refine bodyPost_ret (by simp [results, Try.results23, go_sem, c0, c1, f0, f1, l0]; rfl) rfl ?_
                  have hint := HV2.out.ints k (by rw [HOK.out.vl]; unfold maxLen; omega) (HOK.out.i64 (by omega))
                  rw [HOK.out.vl] at hint
                  exact ⟨_, rfl, by have := HKW2.out; (repeat' (first | (with_reducible assumption) | (with_reducible exact HK.out) | (with_reducible exact Keep.refl _ _) | (with_reducible refine Keep.alloc ?_ _) | (with_reducible refine Keep.setCell ?_ _ (fun h => absurd h (by omega))) | (with_reducible refine Keep.drewN ?_ _) | (with_reducible refine Keep.drew ?_))), .inr ⟨E0.out, k, rfl, .inl ⟨t, by omega, by rw [hturn.out, HLA.out]; exact hneg, _, by rw [hturn.out]; exact hint.same (fun a => by rw [cell_same2 HR2.out]) (by simp), rfl⟩⟩⟩
                · obtain ⟨x, rfl⟩ : ∃ x : Nat, la = (x : Int) := ⟨la.toNat, by omega⟩
                  have hxk : x < k := by omega
                  have e1 : decide ((x : Int) < 0) = false := dec_f hneg
                  clear hlb
                  go_wp2_with fail
                  refine (cycle_any wr k _ l gb k S.bys x (HG.out.keep HKW2.out) HB2.out (HOK.out.byok HS.out) hxk (by omega) hl).mono ?_
                  rintro e w7 ⟨v7, rfl, hk7, hc7⟩
                  have HC7 := Lib.hid hc7
                  have HK7 := Lib.hid hk7
                  clear hc7 hk7
                  go_wp2
                  go_roundw
                  case rel =>
                    refine ⟨t + 1, by omega, by go_num, rfl, fun u hu => ?_, ?_, ?_, ?_, ?_, fun _ => ?_⟩
                    · by_cases hut : u = t
                      · subst hut; rw [hturn.out, HLA.out]; exact Int.not_lt.2 (by omega)
                      · have := HCH.out u (by omega); exact Int.not_lt.2 (by omega)
                    · rw [hturn.out]; exact HV2.out.keep HK7.out
                    · rw [hturn.out]; exact HB2.out.keep HK7.out
                    · exact HR2.out.keep HK7.out
                    · exact HKW2.out.trans HK7.out fun _ _ _ h => h
                    · rw [hturn.out, HLA.out]; exact HC7.out
                  case measure => simp [intOf]; omega
          · have hlt' : ¬ (t : Int) < (k : Int) + 1 := by omega
            obtain rfl : t = k + 1 := by omega
            obtain ⟨c0, c1, f0, f1, l0⟩ := HR.out.two
            go_wp2
            refine bodyPost_ret (by simp [results, Try.results23, go_sem, c0, c1, f0, f1, l0]; rfl) rfl ?_
            exact ⟨_, rfl, by have := HKW.out; (repeat' (first | (with_reducible assumption) | (with_reducible exact HK.out) | (with_reducible exact Keep.refl _ _) | (with_reducible refine Keep.alloc ?_ _) | (with_reducible refine Keep.setCell ?_ _ (fun h => absurd h (by omega))) | (with_reducible refine Keep.drewN ?_ _) | (with_reducible refine Keep.drew ?_))), .inr ⟨E0.out, k, rfl, .inr ⟨fun u hu => by have := HCH.out u (by omega); omega, _, (HCY.out (by omega)).same (fun a => by rw [cell_same2 HR.out]) (by simp), rfl⟩⟩⟩
  · obtain ⟨c, a, e0⟩ : ∃ c a, gapsW n l = (c, a) := ⟨_, _, rfl⟩
    have hc : ¬ c = 0 := by rw [e0] at h0; exact h0
    have F0 := Lib.hid (by rw [e0]; rfl : faultV (gapsW n l).1 (gapsW n l).2 = .agg #[.int .i64 c, .int .i64 a])
    have E := Lib.hid e0
    clear h0 e0
    have hcb : (c != 0) = true := bne_iff_ne.2 hc
    go_enter Try.func23, Try.ntmps23
    go_wp2_with fail
    refine (gapCheck_any _ n _ l (HG.out.keep (by (repeat' (first | (with_reducible assumption) | (with_reducible exact HK.out) | (with_reducible exact Keep.refl _ _) | (with_reducible refine Keep.alloc ?_ _) | (with_reducible refine Keep.setCell ?_ _ (fun h => absurd h (by omega))) | (with_reducible refine Keep.drewN ?_ _) | (with_reducible refine Keep.drew ?_)))))).mono ?_
    rintro e w1 ⟨rfl, hk1⟩
    have K1 : Keep NoS w w1 := Keep.trans (by (repeat' (first | (with_reducible assumption) | (with_reducible exact HK.out) | (with_reducible exact Keep.refl _ _) | (with_reducible refine Keep.alloc ?_ _) | (with_reducible refine Keep.setCell ?_ _ (fun h => absurd h (by omega))) | (with_reducible refine Keep.drewN ?_ _) | (with_reducible refine Keep.drew ?_)))) hk1 fun _ _ _ h => h
    have B1 : Blk w1 w.heap.size #[.int .i64 0, .int .i64 0] := Blk.keep (by (repeat (first | (with_reducible assumption) | (refine blk_at _ _ ?_; simp; done) | (refine Blk.old ?_ _)))) hk1
    obtain ⟨c0, c1, f0, f1, l0⟩ := B1.two
    have m0 : ¬ w1.heap.size = w.heap.size := by omega
    clear hk1
    rw [F0.out]
    go_wp2
    go_region
    go_wp2
    refine bodyPost_ret (by simp [results, Try.results23, go_sem, c0, c1, f0, f1, m0, l0]; rfl) rfl ?_
    exact ⟨_, rfl, by (repeat' (first | (with_reducible assumption) | (with_reducible exact HK.out) | (with_reducible exact Keep.refl _ _) | (with_reducible refine Keep.alloc ?_ _) | (with_reducible refine Keep.setCell ?_ _ (fun h => absurd h (by omega))) | (with_reducible refine Keep.drewN ?_ _) | (with_reducible refine Keep.drew ?_))), .inl ⟨c, a, E.out, hc, rfl⟩⟩
end Go.Proofs.Ytnmklgigmmlgeaa
