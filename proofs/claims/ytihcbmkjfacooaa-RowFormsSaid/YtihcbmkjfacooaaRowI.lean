/- Package row's Not, of rows that can be turned round. -/
import Derived.Test.YtihcbmkjfacooaaRowH
import Derived.OneCell
namespace Go.Proofs.Ytihcbmkjfacooaa
open Go.ChangeShapes Go.WideShapes Go.RowKit
set_option linter.unusedVariables false
set_option linter.unusedSimpArgs false

def notR (r : Rw) : Rw := ⟨r.of.map fun x => -x, 3 - r.kind, -r.to⟩

theorem World.ownsRow_other {w : World} {base : Nat} {v : Value} {xs : List Int} (h : OwnI w base v xs) {b i : Nat} {u : Value} (hb : v.ownBlock ≠ some b) : OwnI (w.setCell ⟨b, i, none⟩ u) base v xs := ownsRow_setCell_other h hb u

theorem Blk.grown {w w' : World} {k : Nat} {A : Array Value} {row : Option Nat} (h : Blk w k A) (hg : w.grownBy w' row) (hr : ∀ b, row = some b → b ≠ k) : Blk w' k A := by
  have hl := h.lt
  obtain ⟨t, h⟩ := h
  exact ⟨t, by rw [hg.block k hl fun e => hr k e.symm rfl]; exact h⟩

set_option maxRecDepth 100000 in
set_option maxHeartbeats 16000000 in
theorem not_ok (w : World) (v : Value) (r : Rw) (h : IsRow w v r) (hc : (chkRow r 12).1 = 0) (hk3 : r.kind = 1 ∨ r.kind = 2) : Calls Try.prog 18 #[v] w (RetRow (notR r) (0, 0) w) := by
  have H := Lib.hid h
  obtain ⟨hcc, _, hlen, hfit, hft⟩ := chk_ok hc
  obtain ⟨sv, rfl, hi, _, _⟩ := h
  obtain ⟨oa, cap, rfl, hm⟩ := hi.len
  have HI := Lib.hid hi
  clear hi
  obtain ⟨of, kind, tt⟩ := r
  simp only at *
  have HCA := Lib.hid hcc
  have HF := Lib.hid hfit
  obtain ⟨ht1, ht2⟩ := hft
  have e3 : (kind == 3) = false := by rw [beq_eq_false_iff_ne]; omega
  clear hcc hc hfit
  go_enter Try.func18, Try.ntmps18
  go_wp2_with fail
  refine (rowCheck_any _ _ ⟨of, kind, tt⟩ 12 (H.out.keep (by (repeat' (first | (with_reducible assumption) | (with_reducible exact HK.out) | (with_reducible exact Keep.refl _ _) | (with_reducible refine Keep.alloc ?_ _) | (with_reducible refine Keep.setCell ?_ _ (fun h => absurd h (by omega))) | (with_reducible refine Keep.drewN ?_ _) | (with_reducible refine Keep.drew ?_)))))).mono ?_
  rintro e w1 ⟨rfl, hk1⟩
  obtain ⟨B0, B1, B2, hk⟩ := head4 hk1
  have HK := Lib.hid hk
  have HI1 := Lib.hid (HI.out.keep hk)
  rw [HCA.out]
  obtain ⟨t0, t1, t2, _, _, _, l0⟩ := B0.three
  obtain ⟨r0, r1, r2, s0, s1, s2, l1⟩ := B1.three
  obtain ⟨p0, p1, p2, p3, l2⟩ := B2.two
  unfold fV
  have HB0 := Lib.hid B0
  have HB1 := Lib.hid B1
  have HB2 := Lib.hid B2
  clear hk1 hk B0 B1 B2
  have n0 : ¬ w1.heap.size = w.heap.size := by omega
  have n1 : ¬ w1.heap.size = w.heap.size + 1 := by omega
  have n2 : ¬ w1.heap.size = w.heap.size + 1 + 1 := by omega
  go_wp2
  have kw : Keep NoS w1 ((w1.alloc (.cells #[.int .i64 0, .int .i64 0] 26)).alloc (.cells #[.slice none 0 0, .int .i64 (3 - kind), .int .i64 (-tt)] 24)) := by (repeat' (first | (with_reducible assumption) | (with_reducible exact HK.out) | (with_reducible exact Keep.refl _ _) | (with_reducible refine Keep.alloc ?_ _) | (with_reducible refine Keep.setCell ?_ _ (fun h => absurd h (by omega))) | (with_reducible refine Keep.drewN ?_ _) | (with_reducible refine Keep.drew ?_)))
  have HKW := Lib.hid (HK.out.both kw)
  have HI2 := Lib.hid (HI1.out.keep kw)
  have C0 := Lib.hid (HB0.out.keep kw)
  have C1 := Lib.hid (HB1.out.keep kw)
  have C2 := Lib.hid (HB2.out.keep kw)
  have C5 : Hid (Blk ((w1.alloc (.cells #[.int .i64 0, .int .i64 0] 26)).alloc (.cells #[.slice none 0 0, .int .i64 (3 - kind), .int .i64 (-tt)] 24)) (w1.heap.size + 1) #[.slice none 0 0, .int .i64 (3 - kind), .int .i64 (-tt)]) := Lib.hid (by (repeat (first | (refine blk_at _ _ ?_; simp; done) | (refine Blk.old ?_ _))))
  have hsz : w.heap.size + 3 ≤ w1.heap.size := by omega
  obtain ⟨b5, hb5⟩ : ∃ b, w1.heap.size + 1 = b := ⟨_, rfl⟩
  rw [hb5] at C5 ⊢
  have hwl : ((w1.alloc (.cells #[.int .i64 0, .int .i64 0] 26)).alloc (.cells #[.slice none 0 0, .int .i64 (3 - kind), .int .i64 (-tt)] 24)).heap.size = b5 + 1 := by rw [← hb5]; simp
  generalize (w1.alloc (.cells #[.int .i64 0, .int .i64 0] 26)).alloc (.cells #[.slice none 0 0, .int .i64 (3 - kind), .int .i64 (-tt)] 24) = w2 at *
  clear r0 r1 r2 s0 s1 s2 p0 p1 p2 p3 n0 n1 n2 kw HB0 HB1 HB2 HK HI1 t0 t1 t2 l0 l1 l2
  go_loopw [30] (fun s wr => ∃ j : Nat, j ≤ of.length ∧ s = .int .i64 j ∧ Keep NoS w wr ∧ b5 < wr.heap.size ∧ IsInts wr (.slice oa of.length cap) of ∧ Blk wr w.heap.size #[.slice oa of.length cap, .int .i64 kind, .int .i64 tt] ∧ Blk wr (w.heap.size + 1) #[.slice none 0 0, .int .i64 0, .int .i64 0] ∧ Blk wr (w.heap.size + 1 + 1) #[.int .i64 0, .int .i64 0] ∧
    ∃ u, Blk wr b5 #[u, .int .i64 (3 - kind), .int .i64 (-tt)] ∧ OwnI wr (b5 + 1) u ((of.take j).map fun x => -x)) (fun s _ => (of.length - intOf s).toNat)
  case atStart => exact ⟨0, by omega, rfl, HKW.out, by omega, HI2.out, C0.out, C1.out, C2.out, _, C5.out, OwnI.nil _ _⟩
  case round =>
    obtain ⟨j, hj, rfl, hkr, hbs, hir, hb0, hb1, hb2, u, hb5', hou⟩ := hrel
    have HKR := Lib.hid hkr
    have HIR := Lib.hid hir
    have HB0 := Lib.hid hb0
    have HB1 := Lib.hid hb1
    have HB2 := Lib.hid hb2
    have HB5 := Lib.hid hb5'
    have HOU := Lib.hid hou
    have hlj : ((of.take j).map fun x => -x).length = j := by rw [List.length_map, List.length_take]; omega
    obtain ⟨ob, cb, hu⟩ := hou.len
    rw [hlj] at hu
    subst hu
    obtain ⟨p0, p1, p2, q0, q1, q2, l0⟩ := hb5'.three
    by_cases hjl : j < of.length
    · have hlt : (j : Int) < (of.length : Int) := by omega
      obtain ⟨b, o, cp, hsl, hb, hx⟩ := hir.at hjl
      cases hsl
      have hfx := HF.out of[j] (List.getElem_mem hjl)
      have HS : Hid ((of.take j).map (fun x => -x) ++ [-of[j]] = (of.take (j + 1)).map fun x => -x) := Lib.hid (by rw [List.take_succ_eq_append_getElem hjl, List.map_append]; rfl)
      have hln : ((of.take j).map fun x => -x).length ≤ 12 := by simp; omega
      generalize of[j] = x at *
      obtain ⟨hx1, hx2⟩ := hfx
      have k1 : Keep NoS wr (wr.alloc (.cells #[.int .i64 (-x)] TI)) := (Keep.refl _ _).alloc _
      obtain ⟨v', w', hr, ho', hg⟩ := app_ints (HOU.out.keep k1) (one_int wr (-x) (by unfold I64; omega)) (by simp; omega) (by simp; omega)
      have hkw' : Keep NoS w w' := (HKR.out.both k1).grown hg fun k hk => by have := HOU.out.block k hk; have := HKR.out.size; omega
      have hne : ∀ c, c < b5 + 1 → ∀ b, (Value.slice ob j cb).ownBlock = some b → b ≠ c := fun c hc b hb => by have := HOU.out.block b hb; omega
      have D0 := Lib.hid ((HB0.out.keep k1).grown hg (hne _ (by omega)))
      have D1 := Lib.hid ((HB1.out.keep k1).grown hg (hne _ (by omega)))
      have D2 := Lib.hid ((HB2.out.keep k1).grown hg (hne _ (by omega)))
      have d5 := (HB5.out.keep k1).grown hg (hne _ (by omega))
      have D5 := Lib.hid d5
      have HO' := Lib.hid ho'
      have HKW' := Lib.hid hkw'
      have HG' := Lib.hid hg.size
      have hl' : (of.take j).length = j := by rw [List.length_take]; omega
      obtain ⟨ob', cb', hu'⟩ := ho'.len
      rw [List.length_append, hlj, List.length_singleton] at hu'
      subst hu'
      obtain ⟨e0, e1, e2, f0, f1, f2, l5⟩ := d5.three
      clear hg hkw' hne d5 ho' k1 hkr hir hb0 hb1 hb2 hb5' hou hln
      go_wp2_with (at_builtin; refine wpList_app_run _ _ 22 _ _ rfl rfl rfl rfl hr ?_)
      go_roundw
      case rel =>
        refine ⟨j + 1, by omega, by go_num, keep_at HKW'.out _ (by omega), Nat.lt_of_lt_of_le l5 (keep_setCell _ _ _ _).size, HI.out.keep (keep_at HKW'.out _ (by omega)), D0.out.setOther _ _ (by omega), D1.out.setOther _ _ (by omega), D2.out.setOther _ _ (by omega), _, by simpa using Blk.set D5.out 0 _, ?_⟩
        rw [← HS.out]
        exact World.ownsRow_other HO'.out (by intro hh; have := HO'.out.block _ hh; omega)
      case measure => simp [intOf]; omega
    · have hlt : ¬ (j : Int) < (of.length : Int) := by omega
      obtain rfl : j = of.length := by omega
      obtain ⟨r0, r1, r2, s0, s1, s2, l1⟩ := hb1.three
      obtain ⟨t0, t1, t2, t3, l2⟩ := hb2.two
      have HNI : Hid (∀ x ∈ of.map fun x => -x, I64 x) := Lib.hid (by
        intro x hx
        obtain ⟨y, hy, rfl⟩ := List.mem_map.1 hx
        have := HF.out y hy
        unfold fitI at this
        unfold I64
        omega)
      have HOC := Lib.hid hou.cap
      rw [List.take_length] at HOU
      have hne : ∀ c, c < b5 + 1 → (Value.slice ob of.length cb).ownBlock ≠ some c := fun c hc hb => by have := HOU.out.block c hb; omega
      clear hkr hir hb0 hb1 hb2 hb5' hou
      go_wp2
      refine bodyPost_ret (by simp [results, Try.results18, go_sem, r0, r1, r2, l1, l2, t0, t1, p0, p1, p2, l0]; rfl) rfl ?_
      refine ⟨_, rfl, OwnI.ints (base := b5 + 1) ?_ HNI.out, HOC.out, ?_⟩
      · repeat' (first | (with_reducible exact HOU.out) | refine World.ownsRow_other ?_ (hne _ (by omega)) | exact HOU.out)
      · repeat' (first | (with_reducible exact HKR.out) | with_reducible refine keep_at ?_ _ (by omega))
end Go.Proofs.Ytihcbmkjfacooaa
