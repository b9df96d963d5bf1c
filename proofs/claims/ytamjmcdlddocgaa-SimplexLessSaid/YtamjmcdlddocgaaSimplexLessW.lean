/- The law SimplexLess: its walk. -/
import Derived.Test.YtamjmcdlddocgaaSpF
import Derived.Test.YtamjmcdlddocgaaSpI
import Derived.Test.YtamjmcdlddocgaaSpJ
import Derived.Test.YtamjmcdlddocgaaSpK
import Derived.Test.YtamjmcdlddocgaaRegionW
namespace Go.Proofs.Ytamjmcdlddocgaa
open Go.ChangeShapes Go.WideShapes Go.RowKit
set_option linter.unusedVariables false
set_option linter.unusedSimpArgs false

theorem markL_false {S : Nat → Bool} {e d : Nat} (h : mark S e d = false) : S d = false := by
  unfold mark at h
  split at h
  · cases h
  · exact h
theorem markL_self (S : Nat → Bool) (e : Nat) : mark S e e = true := by unfold mark; rw [if_pos rfl]
theorem markL_other {S : Nat → Bool} {e d : Nat} (h : d ≠ e) : mark S e d = S d := by unfold mark; rw [if_neg h]
theorem OwnR.lowerB {w0 w : World} {base base' : Nat} {v : Value} {l : List Rw} (h : OwnR w0 w base v l) (hb : base' ≤ base) : OwnR w0 w base' v l := by
  obtain ⟨xs, h1, h2, h3⟩ := h
  exact ⟨xs, h1, h2, World.ownsRow_mono h3 hb⟩
/-- One row, as it lies in a block of its own, is appended. -/
theorem app_row1 {w0 w : World} {base : Nat} {v : Value} {l : List Rw} (hown : OwnR w0 w base v l) {b : Nat} {sv : Value} {r : Rw} (hb : Blk w b #[sv, .int .i64 r.kind, .int .i64 r.to]) (hi : IsInts w0 sv r.of ∧ I64 r.kind ∧ I64 r.to ∧ CapOK sv) (hl : l.length + 1 ≤ 1000) (hbase : base ≤ w.heap.size) :
    ∃ v' w', (Builtin.append_ #[32, 32] 32 #[v, .slice (some ⟨b, 0, none⟩) 1 1]).run Try.prog w = .ok v' w' ∧ OwnR w0 w' base v' (l ++ [r]) ∧ w.grownBy w' v.ownBlock := by
  obtain ⟨i0, hi0, hz0, hz1, hz2⟩ := info_parts infoRwK
  obtain ⟨zs, rfl, h2, h3⟩ := hown
  rw [List.length_map] at hl
  obtain ⟨c0, c1, c2, _⟩ := hb.three
  obtain ⟨v', w', hr, ho, hg⟩ := app_run (P := Try.prog) (w := w) (ty := 32) Try.underlying32 hi0 hz0 hz1 hz2 rfl (by decide) base v zs.length (zs.flatMap rwC) h3 (some ⟨b, 0, none⟩) 1 1 (rwC ⟨sv, r⟩) rfl (fun _ => ⟨_, rfl, fun j u hj => by
    rcases j with _ | _ | _ | j
    · simp [rwC] at hj; subst hj; exact c0
    · simp [rwC] at hj; subst hj; exact c1
    · simp [rwC] at hj; subst hj; exact c2
    · simp [rwC] at hj⟩) (rwOneK (x := ⟨sv, r⟩) hi.1) (by unfold maxLen; omega) (by omega) hbase
  refine ⟨v', w', hr, ⟨zs ++ [⟨sv, r⟩], by simp, fun x hx => ?_, by unfold OwnG; rw [List.flatMap_append, List.length_append]; exact (by simpa using ho)⟩, hg⟩
  rcases List.mem_append.1 hx with hx | hx
  · exact h2 x hx
  · rw [List.mem_singleton] at hx; subst hx; exact hi
/-- The place of the fault is none of the rows'. -/
def RlN (S : Nat → Bool) (σ : Nat → Value) : Prop := S 4 = false → S 1 = true → S 12 = true → ∀ b, σ 12 = .pointer (some ⟨b, 0, none⟩) → (σ 1).ownBlock ≠ some b
theorem rlO {S : Nat → Bool} {σ : Nat → Value} {e : Nat} {v : Value} (h1 : 1 ≠ e) (h2 : 12 ≠ e) (h : RlN S σ) : RlN (mark S e) (upd σ e v) := by
  intro a4 a1 a12 b hb
  rw [markL_other h1] at a1
  rw [markL_other h2] at a12
  unfold upd at hb ⊢
  rw [if_neg h2] at hb
  rw [if_neg h1]
  exact h (markL_false a4) a1 a12 b hb

def pstQ16 (wr : World) (lv rv : Value) (nI stv c1 c2 : Int) (L : List Rw) (c : Rw) (sv : Value) (S : Nat → Bool) : Nat → Value → World → Prop
  | 0, v, _ => v = lv
  | 1, v, w => S 4 = false → OwnR wr w wr.heap.size v L
  | 2, v, _ => v = rv
  | 3, v, w => S 4 = false → ∃ b, v = .slice (some ⟨b, 0, none⟩) 1 1 ∧ Blk w b #[sv, .int .i64 c.kind, .int .i64 c.to]
  | 4, v, w => S 6 = false → IsRows w v (L ++ [c])
  | 5, v, _ => v = .int .i64 nI
  | 6, v, w => ∃ u t, v = .tuple #[.int .i64 stv, u, t, .agg #[.int .i64 c1, .int .i64 c2]]
  | 7, v, w => ∃ u t, v = .tuple #[.int .i64 stv, u, t, .agg #[.int .i64 c1, .int .i64 c2]]
  | 8, v, _ => v = .int .i64 stv
  | 9, _, _ => True
  | 10, _, _ => True
  | 11, v, _ => v = .agg #[.int .i64 c1, .int .i64 c2]
  | 12, v, w => ∃ b, v = .pointer (some ⟨b, 0, none⟩) ∧ wr.heap.size ≤ b ∧ (S 16 = false → Blk w b #[.int .i64 0, .int .i64 0]) ∧ (S 16 = true → Blk w b #[.int .i64 c1, .int .i64 c2])
  | 13, v, _ => v = .int .i64 stv
  | 14, _, _ => True
  | 15, _, _ => True
  | 16, _, _ => True
  | _, _, _ => True
theorem pstQ16_keep {wr : World} {lv rv : Value} {nI stv c1 c2 : Int} {L : List Rw} {c : Rw} {sv : Value} {S : Nat → Bool} {w w' : World} {e : Nat} (he : e ≠ 16) (k : Keep NoS w w') : ∀ (d : Nat) (v : Value), pstQ16 wr lv rv nI stv c1 c2 L c sv S d v w → pstQ16 wr lv rv nI stv c1 c2 L c sv (mark S e) d v w'
  | 0, v, h => h
  | 1, v, h => fun hm => (h (markL_false hm)).keep k
  | 2, v, h => h
  | 3, v, h => fun hm => by
    obtain ⟨b, e1, h1⟩ := h (markL_false hm)
    exact ⟨b, e1, h1.keep k⟩
  | 4, v, h => fun hm => (h (markL_false hm)).keep k
  | 5, v, h => h
  | 6, v, h => h
  | 7, v, h => h
  | 8, v, h => h
  | 9, v, h => h
  | 10, v, h => h
  | 11, v, h => h
  | 12, v, h => by
    obtain ⟨b, e1, h0, h1, h2⟩ := h
    refine ⟨b, e1, h0, fun hm => (h1 (markL_false hm)).keep k, fun hm => (h2 ?_).keep k⟩
    rwa [markL_other (by omega)] at hm
  | 13, v, h => h
  | 14, v, h => h
  | 15, v, h => h
  | 16, v, h => h
  | n + 17, v, h => trivial

theorem pstQ16_app {wr : World} {lv rv : Value} {nI stv c1 c2 : Int} {L : List Rw} {c : Rw} {sv : Value} {S : Nat → Bool} {σ : Nat → Value} {w w' : World} (hg : w.grownBy w' (σ 1).ownBlock) (hr : RlN S σ) (h4 : S 4 = false) (h1 : S 1 = true) (h16 : S 16 = false) : ∀ (d : Nat), d ≠ 4 → S d = true → pstQ16 wr lv rv nI stv c1 c2 L c sv S d (σ d) w → pstQ16 wr lv rv nI stv c1 c2 L c sv (mark S 4) d (σ d) w'
  | 0, _, _, h => h
  | 1, _, _, h => fun hm => by rw [markL_self] at hm; cases hm
  | 2, _, _, h => h
  | 3, _, _, h => fun hm => by rw [markL_self] at hm; cases hm
  | 4, hd, _, _ => absurd rfl hd
  | 5, _, _, h => h
  | 6, _, _, h => h
  | 7, _, _, h => h
  | 8, _, _, h => h
  | 9, _, _, h => h
  | 10, _, _, h => h
  | 11, _, _, h => h
  | 12, _, hs, h => by
    obtain ⟨b, e1, h0, h2, h3⟩ := h
    have hb := h2 h16
    refine ⟨b, e1, h0, fun _ => hb.same (hg.block b hb.lt fun e => hr h4 h1 hs b e1 e.symm), fun hm => ?_⟩
    rw [markL_other (by omega), h16] at hm
    cases hm
  | 13, _, _, h => h
  | 14, _, _, h => h
  | 15, _, _, h => h
  | 16, _, _, h => h
  | n + 17, _, _, h => trivial

theorem pstQ16_st {wr : World} {lv rv : Value} {nI stv c1 c2 : Int} {L : List Rw} {c : Rw} {sv : Value} {S : Nat → Bool} {σ : Nat → Value} {w w' : World} {b7 : Nat} (e0 : σ 12 = .pointer (some ⟨b7, 0, none⟩)) (hg : wr.heap.size ≤ b7) (hb : Blk w' b7 #[.int .i64 c1, .int .i64 c2]) (h4 : S 4 = true) (h6 : S 6 = true) : ∀ (d : Nat), d ≠ 16 → S d = true → pstQ16 wr lv rv nI stv c1 c2 L c sv S d (σ d) w → pstQ16 wr lv rv nI stv c1 c2 L c sv (mark S 16) d (σ d) w'
  | 0, _, _, h => h
  | 1, _, _, h => fun hm => by rw [markL_other (by omega), h4] at hm; cases hm
  | 2, _, _, h => h
  | 3, _, _, h => fun hm => by rw [markL_other (by omega), h4] at hm; cases hm
  | 4, _, _, h => fun hm => by rw [markL_other (by omega), h6] at hm; cases hm
  | 5, _, _, h => h
  | 6, _, _, h => h
  | 7, _, _, h => h
  | 8, _, _, h => h
  | 9, _, _, h => h
  | 10, _, _, h => h
  | 11, _, _, h => h
  | 12, _, _, _ => ⟨b7, e0, hg, fun hm => (by rw [markL_self] at hm; cases hm), fun _ => hb⟩
  | 13, _, _, h => h
  | 14, _, _, h => h
  | 15, _, _, h => h
  | 16, hd, _, _ => absurd rfl hd
  | n + 17, _, _, h => trivial

set_option maxRecDepth 100000 in
set_option maxHeartbeats 32000000 in
theorem simplexLess_walk (w : World) (v : Value) (rows : List Rw) (n k : Int) (h : IsRows w v rows) (hn : I64 n) (hk : I64 k) :
    Calls Try.prog 5 #[v, .int .i64 n, .int .i64 k] w fun e w' => e = .returned (.bool true) ∧ Below w.heap.size w w' := by
  suffices hk : Calls Try.prog 5 #[v, .int .i64 n, .int .i64 k] w fun e w' => e = .returned (.bool true) ∧ Keep NoS w w' from hk.mono fun e w' ⟨h1, h2⟩ => ⟨h1, h2.below (Nat.le_refl _) fun _ _ h => h.elim⟩
  have HR := Lib.hid h
  have CS := fun w' (k : Keep NoS w w') => Lib.hid (refSmall_any w' v rows n (h.keep k))
  obtain ⟨oa, ca, rfl, hca1, hca2⟩ := h.len
  obtain ⟨m, hm⟩ : ∃ m, rows.length = m := ⟨_, rfl⟩
  have HM := Lib.hid hm
  rw [hm] at CS HR hca1 ⊢
  have hcaM := hca2
  unfold maxLen at hca2
  unfold I64 at hk hn
  by_cases hk0 : k < 0
  case pos =>
    go_enter Try.func5, Try.ntmps5
    go_wp2_with fail
    refine (simplexFact_any _).mono ?_
    rintro e w1 ⟨rfl, hk1⟩
    go_wp2
    go_ret
    exact ⟨rfl, hk1⟩
  case neg =>
    by_cases hkm : (m : Int) ≤ k
    case pos =>
      go_enter Try.func5, Try.ntmps5
      go_wp2_with fail
      refine (simplexFact_any _).mono ?_
      rintro e w1 ⟨rfl, hk1⟩
      go_wp2
      go_ret
      exact ⟨rfl, hk1⟩
    case neg =>
      obtain ⟨kn, rfl⟩ : ∃ kn : Nat, k = (kn : Int) := ⟨k.toNat, by omega⟩
      have hknm : kn < m := by omega
      go_enter Try.func5, Try.ntmps5
      go_wp2_with fail
      refine (simplexFact_any _).mono ?_
      rintro e w1 ⟨rfl, hk1⟩
      have K1 := Lib.hid hk1
      clear hk1
      go_wp2_with fail
      refine (CS _ K1.out).out.mono ?_
      rintro e w2 ⟨bs, rfl, hbs, hk2⟩
      have K2 := Lib.hid (K1.out.both hk2)
      have HBS := Lib.hid hbs
      clear CS hk2 hbs
      rcases bs with _ | _
      case false =>
        go_wp2
        go_ret
        exact ⟨rfl, K2.out⟩
      case true =>
        obtain ⟨hn3, hm8, hsm⟩ := HBS.out rfl
        have HSM := Lib.hid hsm
        rw [hm] at hm8
        clear hsm HBS
        have hkr : kn < rows.length := by omega
        obtain ⟨b, o, rfl, hbl, hrow⟩ := HR.out.at hkr
        have hok12 : (listF rows n).1 = 0 → RowOK (rows[kn]) n := fun hl => (list_rows hl).2.2.2.2 _ (List.getElem_mem hkr)
        have HOK := Lib.hid hok12
        have HLW : Hid (∀ hl : (listF rows n).1 = 0, _) := Lib.hid (fun hl => less_law hl hn3 (by omega) HSM.out hkr)
        have HBAD : Hid ((listF rows n).1 ≠ 0 → ∃ c1 c2, c1 ≠ 0 ∧ doR rows n 2000 = ⟨0, [], [], (c1, c2)⟩) := Lib.hid (fun hl => ⟨_, _, hl, by unfold doR; rw [if_neg hl]⟩)
        have CD := fun w' (k : Keep NoS w w') => Lib.hid (spDo_any w' _ rows n 2000 (HR.out.keep k) hn (by unfold I64; omega))
        have CL := fun w' v' (h : IsRows w' v' (lessR rows kn)) => Lib.hid (spDo_any w' v' (lessR rows kn) n 2000 h hn (by unfold I64; omega))
        obtain ⟨st, pt, tm, c1, c2, eR⟩ : ∃ st pt tm c1 c2, doR rows n 2000 = ⟨st, pt, tm, (c1, c2)⟩ := ⟨_, _, _, _, _, rfl⟩
        obtain ⟨uv, pt', tm', d1, d2, eL⟩ : ∃ st pt tm c1 c2, doR (lessR rows kn) n 2000 = ⟨st, pt, tm, (c1, c2)⟩ := ⟨_, _, _, _, _, rfl⟩
        rw [eR] at CD
        rw [eL] at CL
        unfold fV at CD CL
        simp only at CD CL
        have HER := Lib.hid eR
        have HEL := Lib.hid eL
        have HROW := Lib.hid hrow
        clear hok12 eR eL hrow
        go_wp2_with fail
        refine (CD _ K2.out).out.mono ?_
        rintro e w3 ⟨u, t, rfl, _, _, hk3⟩
        have K3 := Lib.hid (K2.out.both hk3)
        have ka : Keep NoS w3 (w3.alloc (.cells #[.int .i64 c1, .int .i64 c2] 24)) := (Keep.refl _ _).alloc _
        have HB11 : Hid (Blk (w3.alloc (.cells #[.int .i64 c1, .int .i64 c2] 24)) w3.heap.size #[.int .i64 c1, .int .i64 c2]) := Lib.hid (blk_at _ _ rfl)
        have K4 := Lib.hid (K3.out.both ka)
        go_upto_region 7 with fail
        clear hk3 ka CD K3
        generalize w3.alloc (.cells #[.int .i64 c1, .int .i64 c2] 24) = w4 at *
        generalize w3.heap.size = b11 at *
        have s1 : (kn : Int) ≤ (ca : Int) := by omega
        have s2 : kn ≤ ca := by omega
        have s3 : (kn : Int) + 1 ≤ (m : Int) := by omega
        have s4 : kn + 1 ≤ m := by omega
        have s5 : (m : Int) ≤ (ca : Int) := by omega
        refine wp_region_by (fun w' => Keep NoS w4 w') [8, 9] [([0, 1, 2, 4, 5, 6, 7], 3), ([], 8)] [9] (by kernel_rfl) (by kernel_rfl) (by (repeat' (with_reducible first | assumption | exact HK.out | exact keR | refine keA ?_ | refine keS ?_ fun h => absurd h (by omega) | refine keN ?_ | refine keD ?_))) ?_
        intro X W hne hF hcls
        have HCL := Lib.hid hcls
        clear hF hcls
        have HR4 := Lib.hid (HR.out.keep K4.out)
        have HH := Lib.hid (rows_head (k := kn) HR4.out (by omega) ca ⟨s2, hcaM⟩)
        have HTL : Hid (IsRows w4 (.slice (if ca = kn + 1 then some ⟨b, o, none⟩ else some ⟨b, o + (kn + 1) * 3, none⟩) (m - (kn + 1)) (ca - (kn + 1))) (rows.drop (kn + 1))) := Lib.hid (by
          split
          · have e0 : rows.drop (kn + 1) = [] := List.drop_eq_nil_of_le (by omega)
            rw [e0]
            exact ⟨_, _, by rw [show m - (kn + 1) = 0 by omega]; rfl, by simp, Nat.le_trans (Nat.sub_le _ _) hcaM, fun h => absurd rfl h⟩
          · have := rows_tail (k := kn + 1) HR4.out (by omega) (ca - (kn + 1)) ⟨by omega, Nat.le_trans (Nat.sub_le _ _) hcaM⟩
            rw [hm] at this
            exact this)
        obtain ⟨v1, wA, hr1, ho1, hg1⟩ := app_rows (w0 := w4) (w := w4.drew) (base := w4.heap.size) (OwnR.nil w4 w4.drew _) HH.out (Keep.refl _ _).drew (by rw [List.length_nil, List.length_take]; omega) (Nat.le_refl _)
        rw [List.nil_append] at ho1
        have k1 : Keep NoS w4 wA := (Keep.refl NoS w4).drew.grown hg1 (fun k hk => by cases hk)
        obtain ⟨v2, wB, hr2, ho2, hg2⟩ := app_rows ho1 HTL.out k1 (by rw [List.length_take, List.length_drop]; omega) k1.size
        have k2 : Keep NoS w4 wB := k1.grown hg2 (fun k hk => ho1.block k hk)
        have HO2 : Hid (OwnR w4 wB w4.heap.size v2 (lessR rows kn)) := Lib.hid ho2
        have K2' := Lib.hid k2
        obtain ⟨o1, l1, c1', rfl⟩ : ∃ o l c, v1 = .slice o l c := by obtain ⟨o, c, h, _⟩ := ho1.len; exact ⟨o, _, c, h⟩
        obtain ⟨o2, l2, c2', rfl⟩ : ∃ o l c, v2 = .slice o l c := by obtain ⟨o, c, h, _⟩ := ho2.len; exact ⟨o, _, c, h⟩
        have HK1 := Lib.hid k1
        clear ho1 ho2 hg1 hg2 k1 k2
        simp only [wpPlan, pickOps, List.getElem?_toArray, List.getElem?_cons_zero, List.getElem?_cons_succ, clsOf, Bool.false_eq_true, if_false]
        (repeat (go_big_quiet_step (fail))); refine wpQuiet_nil ?_
        refine wpAt rfl rfl fun K hK => ?_
        refine wp_app_run _ _ 32 _ _ rfl rfl rfl hr1 ?_
        refine hK _ _ ⟨fun _ => HCL.out _ HK1.out, ?_⟩
        clear hK hr1
        simp only [Act.put, List.setIfInBounds_toArray, List.set_cons_zero, List.set_cons_succ]
        (repeat (go_big_quiet_step (fail))); refine wpQuiet_nil ?_
        refine wpAt rfl rfl fun K hK => ?_
        refine wp_app_run _ _ 32 _ _ rfl rfl rfl hr2 ?_
        refine hK _ _ ⟨fun h => (by simp at h), ?_⟩
        clear hK hr2
        simp only [Act.put, List.setIfInBounds_toArray, List.set_cons_zero, List.set_cons_succ]
        (repeat (go_big_quiet_step (fail))); refine wpQuiet_nil ?_
        refine NoPanic.normal ?_
        generalize (if ca = kn + 1 then some (⟨b, o, none⟩ : Addr) else some ⟨b, o + (kn + 1) * 3, none⟩) = ax at *
        have KB := Lib.hid (K4.out.both K2'.out)
        have HB11 := Lib.hid (HB11.out.keep K2'.out)
        have CLB := CL wB _ (HO2.out.rows K2'.out)
        clear CL HH HTL HR4 HK1 HCL s1 s2 s3 s4 s5
        go_wp2_with fail
        refine CLB.out.mono ?_
        rintro e w5 ⟨u2, t2, rfl, _, _, hk5⟩
        have ka : Keep NoS w5 (w5.alloc (.cells #[.int .i64 d1, .int .i64 d2] 24)) := (Keep.refl _ _).alloc _
        have HB16 : Hid (Blk (w5.alloc (.cells #[.int .i64 d1, .int .i64 d2] 24)) w5.heap.size #[.int .i64 d1, .int .i64 d2]) := Lib.hid (blk_at _ _ rfl)
        have HB11 := Lib.hid ((HB11.out.keep hk5).keep ka)
        have K6 := Lib.hid ((KB.out.both hk5).both ka)
        have HLS := Lib.hid ((HO2.out.rows K2'.out).keep (hk5.both ka))
        go_upto_region 9 with fail
        clear hk5 ka CLB KB HO2 K2' K4
        generalize w5.alloc (.cells #[.int .i64 d1, .int .i64 d2] 24) = w6 at *
        generalize w5.heap.size = b16 at *
        obtain ⟨p0, p1, _, _, pl⟩ := HB11.out.two
        obtain ⟨q0, q1, _, _, ql⟩ := HB16.out.two
        by_cases hl : (listF rows n).1 = 0
        case neg =>
          obtain ⟨c1x, c2x, hc, hx⟩ := HBAD.out hl
          rw [HER.out] at hx
          injection hx with _ _ _ hx
          injection hx with hx1 hx2
          have e1 : (c1 != 0) = true := by rw [bne_iff_ne, hx1]; exact hc
          have hcx : (c1x != 0) = true := by rw [bne_iff_ne]; exact hc
          clear hl HBAD hc
          go_wp2
          go_ret
          exact ⟨rfl, K6.out⟩
        case pos =>
          have hok := HOK.out hl
          obtain ⟨sX, uX, ptX, tmX, ptY, tmY, e1, hs, e2, h1, h2⟩ := HLW.out hl
          rw [HER.out] at e1
          rw [HEL.out] at e2
          injection e1 with e11 _ _ e12
          injection e12 with e12 e13
          injection e2 with e21 _ _ e22
          injection e22 with e22 e23
          subst e11 e12 e13 e21 e22 e23
          have HOK := Lib.hid hok
          have H2 := Lib.hid h2
          clear HLW HBAD HER HEL hl hok h2
          rcases hs with rfl | rfl
          · have := h1 rfl
            subst this
            go_wp2
            go_ret
            exact ⟨rfl, K6.out⟩
          · clear h1
            have H2 := Lib.hid (H2.out rfl)
            obtain ⟨os, cs, r0, r1, r2, hrw⟩ := HROW.out.row
            have r0 := (K6.out.cell hbl).trans r0
            have r1 := (K6.out.cell hbl).trans r1
            have r2 := (K6.out.cell hbl).trans r2
            have hb6 := Nat.lt_of_lt_of_le hbl K6.out.size
            have hrk : ¬ (kn : Int) < 0 := by omega
            have hkI : (kn : Int) < (m : Int) := by omega
            have hchk : (chkRow (rows[kn]) 12).1 = 0 := by
              rw [chk_right (n := 12) ⟨by omega, by omega, HOK.out.kind, by have := HOK.out.len; have := HOK.out.n12; omega, HOK.out.fit, HOK.out.fto⟩]
            have HCHK := Lib.hid hchk
            have HRW := Lib.hid hrw
            have HKD : Hid ((rows[kn]).kind = 1 ∨ (rows[kn]).kind = 2 ∨ (rows[kn]).kind = 3) := Lib.hid HOK.out.kind
            clear hrw hchk HROW
            generalize hrr : rows[kn] = r at *
            obtain ⟨rof, rkd, rto⟩ := r
            simp only at r0 r1 r2 HKD
            by_cases h3 : rkd = 3
            case pos =>
              subst h3
              have CN := fun w' (k : Keep NoS w w') => Lib.hid (not_same w' _ _ (HRW.out.keep k) HCHK.out rfl)
              unfold RetRow nilRw fV at CN
              simp only at CN
              go_wp2_with fail
              refine (CN _ K6.out).out.mono ?_
              rintro e w7 ⟨sv, rfl, hsv, _, hk7⟩
              obtain ⟨ov, cv, rfl, _⟩ := hsv.len
              simp only [List.length_nil] at *
              have K7 := Lib.hid (K6.out.both hk7)
              clear CN hk7 hsv r0 r1 r2 hb6 p0 p1 pl q0 q1 ql
              have ka : Keep NoS w7 ((w7.alloc (.cells #[.slice ov 0 cv, .int .i64 0, .int .i64 0] 42)).alloc (.cells #[.int .i64 4, .int .i64 0] 24)) := ((Keep.refl _ _).alloc _).alloc _
              have HB18 : Hid (Blk ((w7.alloc (.cells #[.slice ov 0 cv, .int .i64 0, .int .i64 0] 42)).alloc (.cells #[.int .i64 4, .int .i64 0] 24)) (w7.heap.size + 1) #[.int .i64 4, .int .i64 0]) := Lib.hid (blk_at _ _ (by simp))
              have K8 := Lib.hid (K7.out.both ka)
              go_upto_region 14 with fail
              clear ka
              generalize (w7.alloc (.cells #[.slice ov 0 cv, .int .i64 0, .int .i64 0] 42)).alloc (.cells #[.int .i64 4, .int .i64 0] 24) = w8 at *
              generalize w7.heap.size + 1 = b18 at *
              obtain ⟨q0, q1, _, _, ql⟩ := HB18.out.two
              go_simp
              repeat go_step
              refine bodyPost_ret (by simp [results, Try.results5, go_sem]; rfl) rfl ?_
              exact ⟨rfl, K8.out⟩
            case neg =>
              have hk12 : rkd = 1 ∨ rkd = 2 := by have := HKD.out; omega
              obtain ⟨ptz, tmz, ez⟩ := H2.out hk12
              have CN := fun w' (k : Keep NoS w w') => Lib.hid (not_ok w' _ _ (HRW.out.keep k) HCHK.out hk12)
              have HOK2 : Hid (I64 (notR ⟨rof, rkd, rto⟩).kind ∧ I64 (notR ⟨rof, rkd, rto⟩).to) := Lib.hid (by
                have := HOK.out.fto
                unfold fitI at this
                unfold notR I64
                simp only at this ⊢
                omega)
              generalize notR ⟨rof, rkd, rto⟩ = c at *
              have CV0 := fun w' v' (h : IsRows w' v' (lessR rows kn ++ [c])) => Lib.hid (spDo_any w' v' (lessR rows kn ++ [c]) n 2000 h hn (by unfold I64; omega))
              rw [ez] at CV0
              unfold RetRow fV at CN
              unfold fV at CV0
              simp only at CN CV0
              have CV := Lib.hid CV0
              clear CV0 ez H2
              go_wp2_with fail
              refine (CN _ K6.out).out.mono ?_
              rintro e w7 ⟨sv, rfl, hsv, hcap, hk7⟩
              have K7 := Lib.hid (K6.out.both hk7)
              obtain ⟨ov, cv, rfl, _⟩ := hsv.len
              have HSV0 := Lib.hid hsv
              have HCAP := Lib.hid hcap
              obtain ⟨ck, hck⟩ : ∃ ck, c.of.length = ck := ⟨_, rfl⟩
              have HLS := Lib.hid (HLS.out.keep hk7)
              clear CN hk7 hsv hcap r0 r1 r2 hb6 p0 p1 pl q0 q1 ql
              have ka : Keep NoS w7 ((w7.alloc (.cells #[.slice ov c.of.length cv, .int .i64 c.kind, .int .i64 c.to] 42)).alloc (.cells #[.int .i64 0, .int .i64 0] 24)) := ((Keep.refl _ _).alloc _).alloc _
              have HB17 : Hid (Blk ((w7.alloc (.cells #[.slice ov c.of.length cv, .int .i64 c.kind, .int .i64 c.to] 42)).alloc (.cells #[.int .i64 0, .int .i64 0] 24)) w7.heap.size #[.slice ov c.of.length cv, .int .i64 c.kind, .int .i64 c.to]) := Lib.hid (Blk.old (blk_at _ _ rfl) _)
              have HB18 : Hid (Blk ((w7.alloc (.cells #[.slice ov c.of.length cv, .int .i64 c.kind, .int .i64 c.to] 42)).alloc (.cells #[.int .i64 0, .int .i64 0] 24)) (w7.heap.size + 1) #[.int .i64 0, .int .i64 0]) := Lib.hid (blk_at _ _ (by simp))
              have K8 := Lib.hid (K7.out.both ka)
              have HLS := Lib.hid (HLS.out.keep ka)
              have HSV0 := Lib.hid (HSV0.out.keep ka)
              clear hck
              go_upto_region 14 with fail
              clear ka
              generalize (w7.alloc (.cells #[.slice ov c.of.length cv, .int .i64 c.kind, .int .i64 c.to] 42)).alloc (.cells #[.int .i64 0, .int .i64 0] 24) = wr at *
              generalize w7.heap.size + 1 = b18 at *
              generalize w7.heap.size = b17 at *
              obtain ⟨q0, q1, _, _, ql⟩ := HB18.out.two
              go_upto_region 16 with fail
              clear q0 q1 ql
              obtain ⟨L, hL⟩ : ∃ L, lessR rows kn = L := ⟨_, rfl⟩
              have hLl := less_len hkr
              rw [hL] at HLS CV hLl
              have HLL : Hid (L.length ≤ 8) := Lib.hid (by omega)
              obtain ⟨sv, hsve⟩ : ∃ sv, Value.slice ov c.of.length cv = sv := ⟨_, rfl⟩
              have HSV : Hid (IsInts wr sv c.of ∧ I64 c.kind ∧ I64 c.to ∧ CapOK sv) := Lib.hid ⟨by rw [← hsve]; exact HSV0.out, HOK2.out.1, HOK2.out.2, by rw [← hsve]; exact HCAP.out⟩
              rw [hsve] at HB17
              simp only [hsve]
              clear hsve HSV0 HCAP hLl hL HOK2
              refine wp_region_rel (fun S σ w' => Keep NoS wr w' ∧ RlN S σ) (pstQ16 wr (.slice o2 l2 c2') (.agg #[sv, .int .i64 c.kind, .int .i64 c.to]) n uv 0 0 L c sv) (by kernel_rfl) (by kernel_rfl) (by kernel_rfl) (by kernel_rfl) (fun S σ hS => ⟨by (repeat' (with_reducible first | assumption | exact HK.out | exact keR | refine keA ?_ | refine keS ?_ fun h => absurd h (by omega) | refine keN ?_ | refine keD ?_)), fun _ h => by rw [hS 1] at h; cases h⟩) _ (fun σ => by
                show putAll _ σ [0, 1, 2, 3, 4, 5, 6, 7, 8, 9, 10, 11, 12, 13, 14, 15, 16] _ = _
                simp only [putAll, List.getElem?_toArray, List.getElem?_cons_zero, List.getElem?_cons_succ, Act.put, List.setIfInBounds_toArray, List.set_cons_zero, List.set_cons_succ]
                rfl) ?_ ?_
              · intro S σ w1 hCC hall e he HK
                have he : e < 17 := he
                obtain ⟨hC, hR⟩ := hCC
                obtain rfl | rfl | rfl | rfl | rfl | rfl | rfl | rfl | rfl | rfl | rfl | rfl | rfl | rfl | rfl | rfl | rfl : e = 0 ∨ e = 1 ∨ e = 2 ∨ e = 3 ∨ e = 4 ∨ e = 5 ∨ e = 6 ∨ e = 7 ∨ e = 8 ∨ e = 9 ∨ e = 10 ∨ e = 11 ∨ e = 12 ∨ e = 13 ∨ e = 14 ∨ e = 15 ∨ e = 16 := by omega
                · refine wpAt rfl rfl fun K hK => ?_
                  go_simp
                  exact hK _ _ ⟨_, ⟨hC, rlO (by omega) (by omega) hR⟩, fun d hd hs h => pstQ16_keep (by decide) (Keep.refl _ _) d _ h, rfl, rfl⟩
                · have h0 : σ 0 = Value.slice o2 l2 c2' := HK.post 0 (by kernel_rfl)
                  rw [h0]
                  obtain ⟨v1, w2, hr1, ho1, hg1⟩ := app_rows (w := w1) (base := w1.heap.size) (OwnR.nil wr w1 _) HLS.out hC (by have := HLL.out; simp only [List.length_nil]; omega) (Nat.le_refl _)
                  have hk2 : Keep NoS w1 w2 := (Keep.refl _ _).grown hg1 (fun k hk => by cases hk)
                  rw [List.nil_append] at ho1
                  refine wpAt rfl rfl fun K hK => ?_
                  refine wp_app_run _ _ 32 _ _ rfl rfl rfl hr1 ?_
                  exact hK _ _ ⟨_, ⟨hC.both hk2, fun a4 a1 a12 b hb e => by
                    rw [markL_other (by omega)] at a12
                    unfold upd at hb e
                    rw [if_neg (by omega)] at hb
                    rw [if_pos rfl] at e
                    obtain ⟨b', e1, _, h2, h3⟩ := hall 12 a12
                    rw [hb] at e1
                    cases e1
                    have hlt : b < w1.heap.size := by
                      rcases hx : S 16 with _ | _
                      · exact (h2 hx).lt
                      · exact (h3 hx).lt
                    have := ho1.block b e
                    omega⟩, fun d hd hs h => pstQ16_keep (by decide) hk2 d _ h, rfl, fun _ => ho1.lowerB hC.size⟩
                · obtain ⟨s0, s1, s2, _, _, _, sl⟩ := (HB17.out.keep hC).three
                  refine wpAt rfl rfl fun K hK => ?_
                  go_simp
                  exact hK _ _ ⟨_, ⟨hC, rlO (by omega) (by omega) hR⟩, fun d hd hs h => pstQ16_keep (by decide) (Keep.refl _ _) d _ h, rfl, rfl⟩
                · have h2 : σ 2 = Value.agg #[sv, .int .i64 c.kind, .int .i64 c.to] := HK.post 2 (by kernel_rfl)
                  rw [h2]
                  refine wpAt rfl rfl fun K hK => ?_
                  go_simp
                  exact hK _ _ ⟨_, ⟨hC.alloc _, rlO (by omega) (by omega) hR⟩, fun d hd hs h => pstQ16_keep (by decide) ((Keep.refl _ _).alloc _) d _ h, rfl, fun _ => ⟨w1.heap.size, rfl, blk_at _ _ rfl⟩⟩
                · have ho1 : OwnR wr w1 wr.heap.size (σ 1) L := (show S 4 = false → OwnR wr w1 wr.heap.size (σ 1) L from HK.post 1 (by kernel_rfl)) HK.self
                  obtain ⟨b3, e3, hb3⟩ := (show S 4 = false → ∃ b, σ 3 = .slice (some ⟨b, 0, none⟩) 1 1 ∧ Blk w1 b #[sv, .int .i64 c.kind, .int .i64 c.to] from HK.post 3 (by kernel_rfl)) HK.self
                  obtain ⟨v2, w2, hr2, ho2, hg2⟩ := app_row1 ho1 hb3 HSV.out (by have := HLL.out; omega) hC.size
                  rw [e3]
                  have hk2 : Keep NoS wr w2 := hC.grown hg2 (fun k hk => ho1.block k hk)
                  refine wpAt rfl rfl fun K hK => ?_
                  refine wp_app_run _ _ 32 _ _ rfl rfl rfl hr2 ?_
                  exact hK _ _ ⟨_, ⟨hk2, rlO (by omega) (by omega) hR⟩, fun d hd hs h => pstQ16_app hg2 hR HK.self (HK.up 1 (by kernel_rfl)) (HK.down 16 (by kernel_rfl)) d hd hs h, rfl, fun _ => ho2.rows hk2⟩
                · refine wpAt rfl rfl fun K hK => ?_
                  go_simp
                  exact hK _ _ ⟨_, ⟨hC, rlO (by omega) (by omega) hR⟩, fun d hd hs h => pstQ16_keep (by decide) (Keep.refl _ _) d _ h, rfl, rfl⟩
                · have ho2 : IsRows w1 (σ 4) (L ++ [c]) := (show S 6 = false → IsRows w1 (σ 4) (L ++ [c]) from HK.post 4 (by kernel_rfl)) HK.self
                  have CDL := CV.out w1 (σ 4) ho2
                  have h5 : σ 5 = Value.int .i64 n := HK.post 5 (by kernel_rfl)
                  rw [h5]
                  refine wpAt rfl rfl fun K hK => ?_
                  go_simp
                  refine (CDL).out.mono ?_
                  rintro e w2 ⟨u, t, rfl, _, _, hk2⟩
                  exact hK _ _ ⟨_, ⟨hC.both hk2, rlO (by omega) (by omega) hR⟩, fun d hd hs h => pstQ16_keep (by decide) hk2 d _ h, rfl, ⟨u, t, rfl⟩⟩
                · obtain ⟨u6, t6, h6⟩ : ∃ u t, σ 6 = .tuple #[.int .i64 uv, u, t, .agg #[.int .i64 0, .int .i64 0]] := HK.post 6 (by kernel_rfl)
                  rw [h6]
                  refine wpAt rfl rfl fun K hK => ?_
                  go_simp
                  exact hK _ _ ⟨_, ⟨hC, rlO (by omega) (by omega) hR⟩, fun d hd hs h => pstQ16_keep (by decide) (Keep.refl _ _) d _ h, rfl, ⟨u6, t6, rfl⟩⟩
                · obtain ⟨u7, t7, h7⟩ : ∃ u t, σ 7 = .tuple #[.int .i64 uv, u, t, .agg #[.int .i64 0, .int .i64 0]] := HK.post 7 (by kernel_rfl)
                  rw [h7]
                  refine wpAt rfl rfl fun K hK => ?_
                  go_simp
                  exact hK _ _ ⟨_, ⟨hC, rlO (by omega) (by omega) hR⟩, fun d hd hs h => pstQ16_keep (by decide) (Keep.refl _ _) d _ h, rfl, rfl⟩
                · obtain ⟨u7, t7, h7⟩ : ∃ u t, σ 7 = .tuple #[.int .i64 uv, u, t, .agg #[.int .i64 0, .int .i64 0]] := HK.post 7 (by kernel_rfl)
                  rw [h7]
                  refine wpAt rfl rfl fun K hK => ?_
                  go_simp
                  exact hK _ _ ⟨_, ⟨hC, rlO (by omega) (by omega) hR⟩, fun d hd hs h => pstQ16_keep (by decide) (Keep.refl _ _) d _ h, rfl, trivial⟩
                · obtain ⟨u7, t7, h7⟩ : ∃ u t, σ 7 = .tuple #[.int .i64 uv, u, t, .agg #[.int .i64 0, .int .i64 0]] := HK.post 7 (by kernel_rfl)
                  rw [h7]
                  refine wpAt rfl rfl fun K hK => ?_
                  go_simp
                  exact hK _ _ ⟨_, ⟨hC, rlO (by omega) (by omega) hR⟩, fun d hd hs h => pstQ16_keep (by decide) (Keep.refl _ _) d _ h, rfl, trivial⟩
                · obtain ⟨u7, t7, h7⟩ : ∃ u t, σ 7 = .tuple #[.int .i64 uv, u, t, .agg #[.int .i64 0, .int .i64 0]] := HK.post 7 (by kernel_rfl)
                  rw [h7]
                  refine wpAt rfl rfl fun K hK => ?_
                  go_simp
                  exact hK _ _ ⟨_, ⟨hC, rlO (by omega) (by omega) hR⟩, fun d hd hs h => pstQ16_keep (by decide) (Keep.refl _ _) d _ h, rfl, rfl⟩
                · refine wpAt rfl rfl fun K hK => ?_
                  go_simp
                  exact hK _ _ ⟨_, ⟨hC.alloc _, fun a4 a1 a12 b hb e => by
                    rw [markL_other (by omega)] at a1
                    unfold upd at hb e
                    rw [if_pos rfl] at hb
                    rw [if_neg (by omega)] at e
                    cases hb
                    have h1 : S 4 = false → OwnR wr w1 wr.heap.size (σ 1) L := hall 1 a1
                    have := (h1 (markL_false a4)).lt _ e
                    omega⟩, fun d hd hs h => pstQ16_keep (by decide) ((Keep.refl _ _).alloc _) d _ h, rfl, ⟨w1.heap.size, rfl, hC.size, fun _ => blk_at _ _ rfl, fun hm => by rw [markL_other (by omega), HK.down 16 (by kernel_rfl)] at hm; cases hm⟩⟩
                · have h8 : σ 8 = Value.int .i64 uv := HK.post 8 (by kernel_rfl)
                  rw [h8]
                  refine wpAt rfl rfl fun K hK => ?_
                  go_simp
                  exact hK _ _ ⟨_, ⟨hC, rlO (by omega) (by omega) hR⟩, fun d hd hs h => pstQ16_keep (by decide) (Keep.refl _ _) d _ h, rfl, rfl⟩
                · refine wpAt rfl rfl fun K hK => ?_
                  go_simp
                  exact hK _ _ ⟨_, ⟨hC, rlO (by omega) (by omega) hR⟩, fun d hd hs h => pstQ16_keep (by decide) (Keep.refl _ _) d _ h, rfl, trivial⟩
                · refine wpAt rfl rfl fun K hK => ?_
                  go_simp
                  exact hK _ _ ⟨_, ⟨hC, rlO (by omega) (by omega) hR⟩, fun d hd hs h => pstQ16_keep (by decide) (Keep.refl _ _) d _ h, rfl, trivial⟩
                · have h11 : σ 11 = Value.agg #[.int .i64 0, .int .i64 0] := HK.post 11 (by kernel_rfl)
                  rw [h11]
                  obtain ⟨b7, e0, hg7, hz7, _⟩ := (show ∃ b, σ 12 = .pointer (some ⟨b, 0, none⟩) ∧ wr.heap.size ≤ b ∧ (S 16 = false → Blk w1 b #[.int .i64 0, .int .i64 0]) ∧ (S 16 = true → Blk w1 b #[.int .i64 0, .int .i64 0]) from HK.post 12 (by kernel_rfl))
                  have hz7 := hz7 HK.self
                  rw [e0]
                  obtain ⟨s0, s1, s2, s3, sl⟩ := hz7.two
                  refine wpAt rfl rfl fun K hK => ?_
                  go_simp
                  exact hK _ _ ⟨undef, ⟨keep_set2 hC hg7 _ _, rlO (by omega) (by omega) hR⟩, pstQ16_st e0 hg7 (hz7.set2 _ _) (HK.up 4 (by kernel_rfl)) (HK.up 6 (by kernel_rfl)), rfl, trivial⟩
              · intro S σ w9 hCC hS hP
                obtain ⟨hC, _⟩ := hCC
                have h13 : σ 13 = Value.int .i64 uv := hP 13 (by decide)
                obtain ⟨bz, e12, _, _, hz⟩ := (show ∃ b, σ 12 = .pointer (some ⟨b, 0, none⟩) ∧ wr.heap.size ≤ b ∧ (S 16 = false → Blk w9 b #[.int .i64 0, .int .i64 0]) ∧ (S 16 = true → Blk w9 b #[.int .i64 0, .int .i64 0]) from hP 12 (by decide))
                obtain ⟨q0, q1, _, _, ql⟩ := (hz (hS 16 (by decide))).two
                rw [h13, e12]
                refine NoPanic.normal ?_
                have K9 := Lib.hid (K8.out.both hC)
                clear hP hS hC e12 hz h13
                go_wp2
                go_ret
                exact ⟨rfl, K9.out⟩
end Go.Proofs.Ytamjmcdlddocgaa
