/- The reference's rowBy. -/
import Derived.Test.YtihcbmkjfacooaaRowO
import Derived.Test.YtihcbmkjfacooaaRowI
namespace Go.Proofs.Ytihcbmkjfacooaa
open Go.ChangeShapes Go.WideShapes Go.RowKit
set_option linter.unusedVariables false
set_option linter.unusedSimpArgs false

theorem ediv_bnd (T : Int) (G : Nat) (hG : 0 < G) (M : Int) (h0 : 0 ≤ M) (h1 : -M ≤ T) (h2 : T ≤ M) : -M ≤ T / (G : Int) ∧ T / (G : Int) ≤ M := by
  have h3 : M * 1 ≤ M * (G : Int) := Int.mul_le_mul_of_nonneg_left (by omega) h0
  exact ⟨Int.le_ediv_of_mul_le (by omega) (by rw [Int.neg_mul]; omega), Int.ediv_le_of_le_mul (by omega) (by omega)⟩

/-- The sign by which a row of equals is turned. -/
def sgq (l : List Int) : Int := if sgnL l < 0 then -1 else 1
def byS (k : Int) (l : List Int) : Int := if k = 3 then sgq l else 1
def byR (l : List Int) (k t : Int) (g : Nat) : Rw := ⟨l.map fun x => (byS k l * x).tdiv g, k, (byS k l * t) / (g : Int)⟩

theorem sgq_cons (x : Int) (l : List Int) : sgq (x :: l) = if x < 0 then -1 else if 0 < x then 1 else sgq l := by
  unfold sgq
  by_cases h0 : x = 0
  · subst h0; simp [sgnL]
  · rw [sgnL, if_neg h0]
    by_cases h1 : x < 0
    · have hs : x.sign < 0 := by rw [Int.sign_eq_neg_one_of_neg h1]; omega
      rw [if_pos h1, if_pos hs]
    · have hs : ¬ x.sign < 0 := by rw [Int.sign_eq_one_of_pos (by omega)]; omega
      rw [if_neg h1, if_pos (show 0 < x by omega), if_neg hs]

theorem sgq_drop {l : List Int} {j : Nat} (hj : j < l.length) : sgq (l.drop j) = if l.getD j 0 < 0 then -1 else if 0 < l.getD j 0 then 1 else sgq (l.drop (j + 1)) := by
  rw [List.drop_eq_getElem_cons hj, sgq_cons, List.getD_eq_getElem?_getD, List.getElem?_eq_getElem hj]; rfl

theorem byS_one (k : Int) (l : List Int) : byS k l = 1 ∨ byS k l = -1 := by
  unfold byS sgq
  split
  · split <;> simp
  · simp

theorem byS_bound {M x : Int} (k : Int) (l : List Int) (h1 : -M ≤ x) (h2 : x ≤ M) : -M ≤ byS k l * x ∧ byS k l * x ≤ M := by
  rcases byS_one k l with h | h <;> rw [h] <;> omega

set_option maxRecDepth 100000 in
set_option maxHeartbeats 16000000 in
theorem rowBy_any (w : World) (v : Value) (l : List Int) (k t : Int) (g : Nat) (h : IsInts w v l) (hl : l.length ≤ 12) (hx : ∀ x ∈ l, -1000000 ≤ x ∧ x ≤ 1000000) (ht : -1000001 ≤ t ∧ t ≤ 1000001) (hg : 0 < g) (hg9 : g ≤ 9000000) :
    Calls Try.prog 61 #[v, .int .i64 k, .int .i64 t, .int .i64 g] w fun e w' => ∃ sv, e = .returned (.agg #[sv, .int .i64 k, .int .i64 (byR l k t g).to]) ∧ OwnI w' w.heap.size sv (byR l k t g).of ∧ (∀ x ∈ (byR l k t g).of, I64 x) ∧ Keep NoS w w' := by
  have HI := Lib.hid h
  obtain ⟨oa, cap, rfl, hm⟩ := h.len
  have HX := Lib.hid hx
  obtain ⟨ht1, ht2⟩ := ht
  clear h hx
  have HT0 : Hid (sgq (l.drop l.length) = 1) := Lib.hid (by rw [List.drop_length]; rfl)
  go_enter Try.func61, Try.ntmps61
  go_wp2
  have ka : Keep NoS w (w.alloc (.cells #[.slice none 0 0, .int .i64 0, .int .i64 0] 24)) := by (repeat' (first | (with_reducible assumption) | (with_reducible exact HK.out) | (with_reducible exact Keep.refl _ _) | (with_reducible refine Keep.alloc ?_ _) | (with_reducible refine Keep.setCell ?_ _ (fun h => absurd h (by omega))) | (with_reducible refine Keep.drewN ?_ _) | (with_reducible refine Keep.drew ?_)))
  have HKA := Lib.hid ka
  have HIA := Lib.hid (HI.out.keep ka)
  have HBA : Hid (Blk (w.alloc (.cells #[.slice none 0 0, .int .i64 0, .int .i64 0] 24)) w.heap.size #[.slice none 0 0, .int .i64 0, .int .i64 0]) := Lib.hid (by (repeat (first | (refine blk_at _ _ ?_; simp; done) | (refine Blk.old ?_ _))))
  obtain ⟨wa, hwa⟩ : ∃ W, w.alloc (.cells #[.slice none 0 0, .int .i64 0, .int .i64 0] 24) = W := ⟨_, rfl⟩
  have hsa : wa.heap.size = w.heap.size + 1 := by rw [← hwa]; simp
  rw [hwa] at HKA HIA HBA ⊢
  have HSA := Lib.hid hsa
  clear ka hwa hsa
  go_loopw [9, 10] (fun s t wr => ∃ j : Nat, j ≤ l.length ∧ t = .int .i64 ((j : Int) - 1) ∧ s = .int .i64 (sgq (l.drop j)) ∧ wa = wr) (fun _ t _ => (intOf t + 1).toNat)
  case atStart => exact ⟨l.length, Nat.le_refl _, rfl, by rw [HT0.out], rfl⟩
  case round =>
    obtain ⟨j, hj, rfl, rfl, rfl⟩ := hrel
    rcases j with _ | j
    · obtain ⟨S, hS⟩ : ∃ S, byS k l = S := ⟨_, rfl⟩
      have HS0 : Hid (sgq (l.drop 0) = sgq l) := Lib.hid rfl
      have HSQ : Hid (∀ x, fitI x → -1000000 ≤ S * x ∧ S * x ≤ 1000000) := Lib.hid fun x hx => by rw [← hS]; exact byS_bound k l hx.1 hx.2
      have hSt : -1000001 ≤ S * t ∧ S * t ≤ 1000001 := by rw [← hS]; exact byS_bound k l ht1 ht2
      have HSB := Lib.hid hS
      clear hS
      rw [HS0.out, show (((0 : Nat) : Int) - 1) = -1 from rfl]
      go_upto_if 31 with fail
      go_cut [9] (fun s wx => s = .int .i64 S ∧ wa = wx)
      case first =>
        by_cases h3 : k = 3
        · subst h3
          obtain rfl : S = sgq l := by rw [← HSB.out]; rfl
          go_wp2_with fail
          go_meet
          exact ⟨rfl, rfl⟩
        · have e3 : (k != 3) = true := by rw [bne_iff_ne]; exact h3
          obtain rfl : S = 1 := by rw [← HSB.out]; unfold byS; rw [if_neg h3]
          go_wp2_with fail
          go_meet
          exact ⟨rfl, rfl⟩
      case rest =>
        obtain ⟨rfl, rfl⟩ := hcut
        obtain ⟨hSt1, hSt2⟩ := hSt
        go_wp2
        have kb : Keep NoS wa (wa.alloc (.cells #[.slice none 0 0, .int .i64 k, .int .i64 0] 24)) := by (repeat' (first | (with_reducible assumption) | (with_reducible exact HK.out) | (with_reducible exact Keep.refl _ _) | (with_reducible refine Keep.alloc ?_ _) | (with_reducible refine Keep.setCell ?_ _ (fun h => absurd h (by omega))) | (with_reducible refine Keep.drewN ?_ _) | (with_reducible refine Keep.drew ?_)))
        have HKB := Lib.hid (HKA.out.both kb)
        have HIB := Lib.hid (HIA.out.keep kb)
        have HB1 : Hid (Blk (wa.alloc (.cells #[.slice none 0 0, .int .i64 k, .int .i64 0] 24)) wa.heap.size #[.slice none 0 0, .int .i64 k, .int .i64 0]) := Lib.hid (by (repeat (first | (refine blk_at _ _ ?_; simp; done) | (refine Blk.old ?_ _))))
        have HBA1 := Lib.hid (HBA.out.keep kb)
        obtain ⟨wb, hwb⟩ : ∃ W, wa.alloc (.cells #[.slice none 0 0, .int .i64 k, .int .i64 0] 24) = W := ⟨_, rfl⟩
        have HSW : Hid (wb.heap.size = w.heap.size + 2) := Lib.hid (by rw [← hwb]; simp [HSA.out])
        rw [hwb] at HKB HIB HB1 HBA1 ⊢
        obtain ⟨b5, hb5⟩ : ∃ b, wa.heap.size = b := ⟨_, rfl⟩
        rw [hb5] at HB1 ⊢
        have HB5E : Hid (b5 = w.heap.size + 1) := Lib.hid (by rw [← hb5, HSA.out])
        have hb5l : w.heap.size < b5 := by have := HB5E.out; omega
        clear kb hwb hb5
        go_loopw [12] (fun s wr => ∃ j : Nat, j ≤ l.length ∧ s = .int .i64 j ∧ Keep NoS w wr ∧ b5 < wr.heap.size ∧ IsInts wr (.slice oa l.length cap) l ∧ Blk wr w.heap.size #[.slice none 0 0, .int .i64 0, .int .i64 0] ∧
          ∃ u, Blk wr b5 #[u, .int .i64 k, .int .i64 0] ∧ OwnI wr (b5 + 1) u ((l.take j).map fun x => (S * x).tdiv g)) (fun s _ => (l.length - intOf s).toNat)
        case atStart => exact ⟨0, by omega, rfl, HKB.out, by have := HSW.out; have := HB5E.out; omega, HIB.out, HBA1.out, _, HB1.out, OwnI.nil _ _⟩
        case round =>
          obtain ⟨j, hj, rfl, hkr, hbs, hir, hb0, u, hb5', hou⟩ := hrel
          have HKR := Lib.hid hkr
          have HIR := Lib.hid hir
          have HB0 := Lib.hid hb0
          have HB5 := Lib.hid hb5'
          have HOU := Lib.hid hou
          have hlj : ((l.take j).map fun x => (S * x).tdiv g).length = j := by rw [List.length_map, List.length_take]; omega
          obtain ⟨ob, cb, hu⟩ := hou.len
          rw [hlj] at hu
          subst hu
          obtain ⟨p0, p1, p2, q0, q1, q2, l0⟩ := hb5'.three
          by_cases hjl : j < l.length
          · have hlt : (j : Int) < (l.length : Int) := by omega
            obtain ⟨b, o, cp, hsl, hbw, hxw⟩ := HI.out.at hjl
            cases hsl
            have hb : b < wr.heap.size := Nat.lt_of_lt_of_le hbw hkr.size
            have hx := (hkr.cell (i := o + j) hbw).trans hxw
            have HXW := Lib.hid (And.intro hbw hxw)
            clear hbw hxw
            have hfx := HX.out l[j] (List.getElem_mem hjl)
            have HS : Hid ((l.take j).map (fun x => (S * x).tdiv g) ++ [(S * l[j]).tdiv g] = (l.take (j + 1)).map fun x => (S * x).tdiv g) := Lib.hid (by rw [List.take_succ_eq_append_getElem hjl, List.map_append]; rfl)
            have hln : ((l.take j).map fun x => (S * x).tdiv g).length ≤ 12 := by simp; omega
            have hSx := HSQ.out l[j] hfx
            generalize l[j] = x at *
            obtain ⟨Y, hY⟩ : ∃ Y, S * x = Y := ⟨_, rfl⟩
            rw [hY] at HS hSx
            have HYY := Lib.hid hY
            obtain ⟨Z, hZ⟩ : ∃ Z, Y.tdiv (g : Int) = Z := ⟨_, rfl⟩
            rw [hZ] at HS
            have hzb : Z.natAbs ≤ 1000000 := by rw [← hZ, Int.natAbs_tdiv]; exact Nat.le_trans (Nat.div_le_self _ _) (by omega)
            have hZ1 : -1000000 ≤ Z := by omega
            have hZ2 : Z ≤ 1000000 := by omega
            have hYw : IntKind.i64.wrap (S * x) = Y := by rw [hY]; exact Go.IntWalk.i64_in _ (by omega)
            have hgz : ¬ (g : Int) = 0 := by omega
            have hgz2 : ¬ g = 0 := by omega
            have hZw : IntKind.i64.wrap (Y.tdiv (g : Int)) = Z := by rw [hZ]; exact Go.IntWalk.i64_in _ (by omega)
            have HZW := Lib.hid hZw
            have HYW := Lib.hid hYw
            clear hfx hY hZ hzb hkr hir hb0 hb5' hou hSx hYw hZw
            go_wp2
            refine wp_region_by (fun w' => w'.cell? ⟨b5, 0, none⟩ = some (.slice ob j cb) ∧ w'.cell? ⟨b, o + j, none⟩ = some (.int .i64 x)) [13] [([0, 1, 2, 3, 4, 5, 6, 7, 8, 9], 10), ([], 11), ([12], 13)] [] (by kernel_rfl) (by kernel_rfl) ⟨p0, hx⟩ ?_
            intro X W hne hF hcl
            have HCL := Lib.hid hcl
            have hx0 := fun x => (hF x).1
            have hx1 := fun x => (hF x).2
            clear hF hcl
            simp only [wpPlan, pickOps, List.getElem?_toArray, List.getElem?_cons_zero, List.getElem?_cons_succ, clsOf, Bool.false_eq_true, if_false]
            (repeat (quiet_step (fail))); refine wpQuiet_nil ?_
            refine wpOp_at (by simp only [List.getElem?_toArray, List.getElem?_cons_zero, List.getElem?_cons_succ]; rfl) (by rfl) (fun K hK => ?_)
            go_simp
            rw [HYW.out, HZW.out]
            have k1 : Keep NoS wr ((wr.alloc (.cells #[.int .i64 Z] TI)).drew) := by (repeat' (first | (with_reducible assumption) | (with_reducible exact HK.out) | (with_reducible exact Keep.refl _ _) | (with_reducible refine Keep.alloc ?_ _) | (with_reducible refine Keep.setCell ?_ _ (fun h => absurd h (by omega))) | (with_reducible refine Keep.drewN ?_ _) | (with_reducible refine Keep.drew ?_)))
            refine hK _ _ ⟨fun _ => HCL.out _ ⟨(k1.cell l0).trans p0, (k1.cell hb).trans hx⟩, ?_⟩
            have K1 := Lib.hid k1
            have HO1 := Lib.hid (HOU.out.keep k1)
            have HS1 : Hid (IsInts ((wr.alloc (.cells #[.int .i64 Z] TI)).drew) (.slice (some ⟨wr.heap.size, 0, none⟩) 1 1) [Z]) := Lib.hid (one_int wr.drew Z (by unfold I64; omega))
            clear hK K
            have hs2 := HKR.out.size
            have hbs2 : b5 + 1 ≤ wr.heap.size := hbs
            have k1s := k1.size
            generalize hbb : wr.heap.size = b2 at HS1 hbs hbs2 hs2 k1s ⊢
            generalize (wr.alloc (.cells #[.int .i64 Z] TI)).drew = w1 at *
            clear k1
            (repeat (quiet_step (fail))); refine wpQuiet_nil ?_
            refine wpOp_at (by simp only [List.getElem?_toArray, List.getElem?_cons_zero, List.getElem?_cons_succ]; rfl) (by rfl) (fun K hK => ?_)
            obtain ⟨v', w', hr, ho', hg⟩ := app_ints HO1.out HS1.out (by simp; omega) (by omega)
            have hkw' : Keep NoS w w' := (HKR.out.both K1.out).grown hg fun k hk => by have := HOU.out.block k hk; have := HKR.out.size; omega
            have hne : ∀ c, c < b5 + 1 → ∀ b, (Value.slice ob j cb).ownBlock = some b → b ≠ c := fun c hc b hb => by have := HOU.out.block b hb; omega
            have D0 := Lib.hid ((HB0.out.keep K1.out).grown hg (hne _ (by omega)))
            have d5 := (HB5.out.keep K1.out).grown hg (hne _ (by omega))
            have D5 := Lib.hid d5
            have HO' := Lib.hid ho'
            have HKW' := Lib.hid hkw'
            have HG' := Lib.hid hg.size
            obtain ⟨ob', cb', hu'⟩ := ho'.len
            rw [List.length_append, hlj, List.length_singleton] at hu'
            subst hu'
            obtain ⟨e0, e1, e2, f0, f1, f2, l5⟩ := d5.three
            have hxx := (hkw'.cell (i := o + j) HXW.out.1).trans HXW.out.2
            refine wp_app_run _ _ 22 _ _ rfl rfl rfl hr ?_
            refine hK _ _ ⟨fun _ => HCL.out _ ⟨?_, hxx⟩, ?_⟩
            · exact e0
            clear hK K hr
            simp only [Act.put, List.setIfInBounds_toArray, List.set_cons_zero, List.set_cons_succ]
            (repeat (quiet_step (fail))); refine wpQuiet_nil ?_
            refine wpOp_at (by simp only [List.getElem?_toArray, List.getElem?_cons_zero, List.getElem?_cons_succ]; rfl) (by rfl) (fun K hK => ?_)
            go_simp
            refine hK _ _ ⟨fun h => (by simp at h), ?_⟩
            clear hK K hx0 hx1 hxx
            (repeat (quiet_step (fail))); refine wpQuiet_nil ?_
            refine NoPanic.normal ?_
            go_wp2
            go_roundw
            case rel =>
              refine ⟨j + 1, by omega, by go_num, keep_at HKW'.out _ (by omega), Nat.lt_of_lt_of_le l5 (keep_setCell _ _ _ _).size, HI.out.keep (keep_at HKW'.out _ (by omega)), D0.out.setOther _ _ (by omega), _, by simpa using Blk.set D5.out 0 _, ?_⟩
              rw [← HS.out]
              exact World.ownsRow_other HO'.out (by intro hh; have := HO'.out.block _ hh; omega)
            case measure => simp [intOf]; omega
          · have hlt : ¬ (j : Int) < (l.length : Int) := by omega
            obtain rfl : j = l.length := by omega
            rw [List.take_length] at HOU
            obtain ⟨r0, r1, r2, s0, s1, s2, l1⟩ := hb0.three
            have HQB : Hid ((byR l k t g).of = l.map fun x => (S * x).tdiv g) := Lib.hid (by unfold byR; rw [HSB.out])
            have HQT : Hid ((byR l k t g).to = (S * t) / (g : Int)) := Lib.hid (by unfold byR; rw [HSB.out])
            have hqb := ediv_bnd (S * t) g hg 1000001 (by omega) hSt1 hSt2
            have HNI : Hid (∀ x ∈ l.map fun x => (S * x).tdiv (g : Int), I64 x) := Lib.hid (by
              intro x hx
              obtain ⟨y, hy, rfl⟩ := List.mem_map.1 hx
              have h1 := HSQ.out y (HX.out y hy)
              have h2 : ((S * y).tdiv (g : Int)).natAbs ≤ 1000000 := by rw [Int.natAbs_tdiv]; exact Nat.le_trans (Nat.div_le_self _ _) (by omega)
              unfold I64
              omega)
            have hne : ∀ c, c < b5 + 1 → (Value.slice ob l.length cb).ownBlock ≠ some c := fun c hc hb => by have := HOU.out.block c hb; omega
            have HNE := Lib.hid hne
            have hgz : ¬ (g : Int) = 0 := by omega
            have hkc := HKR.out.size
            obtain ⟨T, hT⟩ : ∃ T, S * t = T := ⟨_, rfl⟩
            rw [hT] at HQT hqb
            have HTW := Lib.hid hT
            have hT9 : -1000001 ≤ T ∧ T ≤ 1000001 := by omega
            clear hkr hir hb0 hb5' hou hne p0 p1 p2 q0 q1 q2 l0 hT
            go_wp2_with fail
            rw [HTW.out]
            have k1 : Keep NoS wr (wr.alloc (.cells intCells 74)) := (Keep.refl _ _).alloc _
            refine (newInt_any _ T (by omega) (by omega)).mono ?_
            rintro e w2 ⟨b1, hb1, rfl, hk2, hi2⟩
            have K2 := Lib.hid (k1.both hk2)
            have HA := Lib.hid (IsHdr.ofNewer (hdr_new wr) hk2)
            have HI1 := Lib.hid hi2
            clear k1 hk2 hi2 hb1
            go_wp2_with fail
            refine (newInt_any _ g (by omega) (by omega)).mono ?_
            rintro e w3 ⟨b2, hb2, rfl, hk3, hi3⟩
            have K3 := Lib.hid (K2.out.both hk3)
            have HA := Lib.hid (IsHdr.ofNewer HA.out hk3)
            have HI1 := Lib.hid (HI1.out.ofNewer hk3)
            have HI2 := Lib.hid hi3
            clear hk3 hi3 hb2 K2
            go_wp2_with fail
            refine (div_of small_le_BIG qrOK_small w3 wr.heap.size 0 b1 0 b2 0 T g HA.out HI1.out HI2.out hgz (by omega) (by omega)).mono ?_
            rintro e w4 ⟨rfl, hk4, hi4⟩
            have K4 := Lib.hid (K3.out.newer hk4 (Nat.le_refl _))
            have HI4 := Lib.hid hi4
            clear hk4 hi4 K3 HI1 HI2 HA
            go_wp2_with fail
            refine (int64_any w4 wr.heap.size 0 (T / (g : Int)) HI4.out (by omega) (by omega)).mono ?_
            rintro e w5 ⟨rfl, rfl⟩
            have D0 := Lib.hid (HB0.out.keep K4.out)
            have d5 := HB5.out.keep K4.out
            have D5 := Lib.hid d5
            have HO4 := Lib.hid (HOU.out.keep K4.out)
            have HK4 := Lib.hid (HKR.out.both K4.out)
            obtain ⟨p0, p1, p2, q0, q1, q2, l0⟩ := d5.three
            obtain ⟨r0, r1, r2, s0, s1, s2, l1⟩ := D0.out.three
            obtain ⟨Z, hZ⟩ : ∃ Z, T / (g : Int) = Z := ⟨_, rfl⟩
            rw [hZ] at HQT hqb ⊢
            clear d5 hZ
            go_wp2
            refine bodyPost_ret (by simp [results, Try.results61, go_sem, p0, p1, p2, l0, r0, r1, r2, l1]; rfl) rfl ?_
            rw [HQB.out, HQT.out]
            refine ⟨_, rfl, World.ownsRow_mono (base := b5 + 1) ?_ (by omega), HNI.out, ?_⟩
            · repeat' (first | (with_reducible exact HO4.out) | refine World.ownsRow_other ?_ (HNE.out _ (by omega)) | exact HO4.out)
            · repeat' (first | (with_reducible exact HK4.out) | with_reducible refine keep_at ?_ _ (by omega))
    · have hx := HX.out (l.getD j 0) (by rw [List.getD_eq_getElem?_getD, List.getElem?_eq_getElem (by omega)]; exact List.getElem_mem _)
      obtain ⟨b, o, hoa, hbl, hc⟩ := HIA.out.cellAt (by omega)
      subst hoa
      have c0 := hc j (by omega)
      have HS := Lib.hid (sgq_drop (l := l) (j := j) (by omega))
      have hk1 : ((j + 1 : Nat) : Int) - 1 = (j : Int) := by omega
      have hk2 : (j : Int) < (l.length : Int) := by omega
      clear hc
      obtain ⟨x, hX⟩ : ∃ x, l.getD j 0 = x := ⟨_, rfl⟩
      rw [hX] at c0 hx HS
      clear hX
      obtain ⟨s1, hs1⟩ : ∃ s, sgq (l.drop j) = s := ⟨_, rfl⟩
      rw [hs1] at HS
      have HS1 := Lib.hid hs1
      clear hs1
      by_cases h1 : x < 0
      · rw [if_pos h1] at HS
        have h2 : ¬ 0 < x := by omega
        go_wp2
        go_roundw
        case rel => exact ⟨j, by omega, by go_num, by rw [HS1.out, HS.out], trivial⟩
        case measure => simp [intOf]
      · rw [if_neg h1] at HS
        by_cases h2 : 0 < x
        · rw [if_pos h2] at HS
          go_wp2
          go_roundw
          case rel => exact ⟨j, by omega, by go_num, by rw [HS1.out, HS.out], trivial⟩
          case measure => simp [intOf]
        · rw [if_neg h2] at HS
          go_wp2
          go_roundw
          case rel => exact ⟨j, by omega, by go_num, by rw [HS1.out, HS.out], trivial⟩
          case measure => simp [intOf]
end Go.Proofs.Ytihcbmkjfacooaa
