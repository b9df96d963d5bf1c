/- Package farkas's numbers: fractions as exact numbers. -/
import Derived.Test.YtamjmcdlddocgaaNumA
namespace Go.Proofs.Ytamjmcdlddocgaa
open Go.ChangeShapes Go.WideShapes Go.RowKit
set_option linter.unusedVariables false
set_option linter.unusedSimpArgs false

theorem num_zero_of {q : Rat} (h : q = 0) : q.num.sign = 0 := by subst h; rfl
theorem num_sign_ne {q : Rat} (h : ¬ q = 0) : q.num.sign ≠ 0 := fun h0 => h (by rwa [Int.sign_eq_zero_iff_zero, Rat.num_eq_zero] at h0)
theorem exSign_num {v : Value} {q : Rat} (h : IsNum v q) (w : World) : Calls Try.prog 41 #[v] w fun e w' => e = .returned (.int .i64 q.num.sign) ∧ Keep NoS w w' := by
  obtain ⟨d, rfl, _⟩ := h
  exact exSign_any w q.num d

theorem exOf_frac {g : Fq} (h : FracOK g.N g.D) (w : World) : Calls Try.prog 50 #[.agg #[.int .i64 g.N, .int .i64 g.D]] w fun e w' => e = .returned (numQ g.q) ∧ Keep NoS w w' :=
  exOf_any w g.N g.D (by have := h.2.2; omega) (by have := h.1; have := h.2.1; omega) (by have := h.1; omega)

set_option maxRecDepth 100000 in
set_option maxHeartbeats 8000000 in
theorem numbers_any (w : World) (v : Value) (l : List Fq) (h : IsFracs w v l) (hq : ∀ g ∈ l, FracOK g.N g.D) (hl : l.length ≤ 1000) :
    Calls Try.prog 38 #[v] w fun e w' => ∃ u, e = .returned u ∧ OwnN w' w.heap.size u (l.map Fq.q) ∧ Keep NoS w w' := by
  have HN := Lib.hid h
  have HQ := Lib.hid hq
  obtain ⟨oa, ca, rfl, hca, hma⟩ := h.len
  clear h hq hca hma
  go_enter Try.func38, Try.ntmps38
  go_wp2
  go_loopw [8, 3] (fun s u wr => ∃ k : Nat, k ≤ l.length ∧ s = .int .i64 k ∧ OwnN wr w.heap.size u ((l.take k).map Fq.q) ∧ Keep NoS w wr) (fun s _ _ => (l.length - intOf s).toNat)
  case atStart => exact ⟨0, by omega, rfl, OwnN.nil _ _, Keep.refl _ _⟩
  case round =>
    obtain ⟨k, hk, rfl, hou, hkr⟩ := hrel
    have HOU := Lib.hid hou
    have HKR := Lib.hid hkr
    clear hkr
    have hlj : ((l.take k).map Fq.q).length = k := by rw [List.length_map, List.length_take]; omega
    obtain ⟨ob, cb, hu⟩ := hou.len
    rw [hlj] at hu
    subst hu
    clear hou
    by_cases hkl : k < l.length
    · have hlt : (k : Int) < (l.length : Int) := by omega
      obtain ⟨b, o, rfl, hbl, p0, p1⟩ := (HN.out.keep HKR.out).at hkl
      have CC := fun w => Lib.hid (exOf_frac (HQ.out _ (List.getElem_mem hkl)) w)
      have HS : Hid ((l.take k).map Fq.q ++ [(l[k]).q] = (l.take (k + 1)).map Fq.q) := Lib.hid (by rw [List.take_succ_eq_append_getElem hkl, List.map_append]; rfl)
      obtain ⟨x, hx, hxn⟩ := numQ_nv (l[k]).q
      rw [hx] at CC
      generalize (l[k]).q = q at *
      generalize l[k].N = gn at *
      generalize l[k].D = gd at *
      obtain ⟨xb, xS, yb, yS⟩ := x
      unfold NV.v at CC hxn
      simp only at CC hxn
      have HXN := Lib.hid hxn
      clear hx hxn
      go_wp2_with fail
      refine (CC _).out.mono ?_
      rintro e w4 ⟨rfl, hk4⟩
      have k4 : Keep NoS wr w4 := Keep.trans (by (repeat' (with_reducible first | assumption | exact HK.out | exact keR | refine keA ?_ | refine keS ?_ fun h => absurd h (by omega) | refine keN ?_ | refine keD ?_))) hk4 fun _ _ _ h => h
      have k5 : Keep NoS wr (w4.alloc (.cells #[.bool xb, .string xS, .bool yb, .string yS] 77)) := k4.alloc _
      have hs5 : w.heap.size ≤ (w4.alloc (.cells #[.bool xb, .string xS, .bool yb, .string yS] 77)).heap.size := Nat.le_trans HKR.out.size k5.size
      have hb5 : Blk (w4.alloc (.cells #[.bool xb, .string xS, .bool yb, .string yS] 77)) w4.heap.size #[.bool xb, .string xS, .bool yb, .string yS] := blk_at _ _ rfl
      obtain ⟨v', w', hr, ho', hg⟩ := app_num (HOU.out.keep k5) (x := ⟨xb, xS, yb, yS⟩) hb5 HXN.out (by rw [hlj]; omega) hs5
      have K' := Lib.hid ((HKR.out.both k5).grown hg fun k hk => HOU.out.block k hk)
      rw [HS.out] at ho'
      have HO' := Lib.hid ho'
      clear hg hk4 k4 k5 hs5 hb5 p0 p1 ho'
      go_wp2_with (at_builtin; refine wpList_app_run _ _ 66 _ _ rfl rfl rfl rfl hr ?_)
      go_roundw
      case rel => exact ⟨k + 1, by omega, by go_num, HO'.out, K'.out⟩
      case measure => simp [intOf]; omega
    · have hlt : ¬ (k : Int) < (l.length : Int) := by omega
      obtain rfl : k = l.length := by omega
      have HO : Hid (OwnN wr w.heap.size (.slice ob l.length cb) (l.map Fq.q)) := Lib.hid (by have := HOU.out; rwa [List.take_length] at this)
      go_wp2
      go_ret
      exact ⟨_, rfl, HO.out, HKR.out⟩
end Go.Proofs.Ytamjmcdlddocgaa
