/- Package tableau's bounds: upper, lower. -/
import Derived.Test.YtamjmcdlddocgaaTbA
import Derived.Test.YtamjmcdlddocgaaPtAA
import Derived.Test.YtamjmcdlddocgaaFkP
namespace Go.Proofs.Ytamjmcdlddocgaa
open Go.ChangeShapes Go.WideShapes Go.RowKit
set_option linter.unusedVariables false
set_option linter.unusedSimpArgs false

/-- What a variable may not exceed (where it has a bound). -/
def upP (n : Nat) (rows : List Rw) (v : Nat) : Pr := if v < n then pr0 else ⟨((rows.getD (v - n) nilRw).to : Rat), if (rows.getD (v - n) nilRw).kind = 2 then -1 else 0⟩
def hasUp (n v : Nat) : Bool := decide (n ≤ v)
def loP (n : Nat) (rows : List Rw) (v : Nat) : Pr := if v < n ∨ (rows.getD (v - n) nilRw).kind ≠ 3 then pr0 else ⟨((rows.getD (v - n) nilRw).to : Rat), 0⟩
def hasLo (n : Nat) (rows : List Rw) (v : Nat) : Bool := decide (n ≤ v ∧ (rows.getD (v - n) nilRw).kind = 3)
theorem numInt (x : Int) : ∃ y : NV, numV x 1 = y.v ∧ IsNum y.v (x : Rat) := by
  rw [← numQ_int]
  exact numQ_nv _
theorem Blk.tri {w : World} {k : Nat} {x y z : Value} (h : Blk w k #[x, y, z]) :
    w.cell? ⟨k, 0, none⟩ = some x ∧ w.cell? ⟨k, 1, none⟩ = some y ∧ w.cell? ⟨k, 2, none⟩ = some z ∧ w.frozen? ⟨k, 0, none⟩ = false ∧ w.frozen? ⟨k, 1, none⟩ = false ∧ w.frozen? ⟨k, 2, none⟩ = false ∧ k < w.heap.size :=
  ⟨h.cell 0, h.cell 1, h.cell 2, h.free 0, h.free 1, h.free 2, h.lt⟩
theorem keep_set3 {w0 w : World} {b : Nat} (h : Keep NoS w0 w) (hb : w0.heap.size ≤ b) (u v x : Value) : Keep NoS w0 (((w.setCell ⟨b, 0, none⟩ u).setCell ⟨b, 1, none⟩ v).setCell ⟨b, 2, none⟩ x) :=
  ((h.setCell _ fun hh => absurd hh (by omega)).setCell _ fun hh => absurd hh (by omega)).setCell _ fun hh => absurd hh (by omega)
theorem Blk.set3 {w : World} {b : Nat} {x y z : Value} (h : Blk w b #[x, y, z]) (p q r : Value) : Blk (((w.setCell ⟨b, 0, none⟩ p).setCell ⟨b, 1, none⟩ q).setCell ⟨b, 2, none⟩ r) b #[p, q, r] := by
  obtain ⟨t, h⟩ := h
  exact ⟨t, heap_setCell_same 2 r (heap_setCell_same 1 q (heap_setCell_same 0 p h))⟩
theorem Blk.other3 {w : World} {b b' : Nat} {A : Array Value} (h : Blk w b A) (hne : b ≠ b') (p q r : Value) : Blk (((w.setCell ⟨b', 0, none⟩ p).setCell ⟨b', 1, none⟩ q).setCell ⟨b', 2, none⟩ r) b A := by
  obtain ⟨t, h⟩ := h
  exact ⟨t, by rw [heap_setCell_other _ _ _ _ hne, heap_setCell_other _ _ _ _ hne, heap_setCell_other _ _ _ _ hne]; exact h⟩
theorem Blk.set4hi {w : World} {b : Nat} {a0 a1 a2 a3 a4 a5 a6 a7 : Value} (h : Blk w b #[a0, a1, a2, a3, a4, a5, a6, a7]) (c4 c5 c6 c7 : Value) : Blk ((((w.setCell ⟨b, 4, none⟩ c4).setCell ⟨b, 5, none⟩ c5).setCell ⟨b, 6, none⟩ c6).setCell ⟨b, 7, none⟩ c7) b #[a0, a1, a2, a3, c4, c5, c6, c7] := by
  obtain ⟨t, h⟩ := h
  exact ⟨t, heap_setCell_same 7 c7 (heap_setCell_same 6 c6 (heap_setCell_same 5 c5 (heap_setCell_same 4 c4 h)))⟩
/-- The struct T as it lies. -/
def TBlk (w : World) (bT : Nat) (n : Nat) (vr vb vm vc vv vg : Value) : Prop := Blk w bT #[.int .i64 n, vr, vb, vm, vc, vv, vg]
theorem Blk.seven {w : World} {k : Nat} {a0 a1 a2 a3 a4 a5 a6 : Value} (h : Blk w k #[a0, a1, a2, a3, a4, a5, a6]) :
    w.cell? ⟨k, 0, none⟩ = some a0 ∧ w.cell? ⟨k, 1, none⟩ = some a1 ∧ w.cell? ⟨k, 2, none⟩ = some a2 ∧ w.cell? ⟨k, 3, none⟩ = some a3 ∧ w.cell? ⟨k, 4, none⟩ = some a4 ∧ w.cell? ⟨k, 5, none⟩ = some a5 ∧ w.cell? ⟨k, 6, none⟩ = some a6 ∧ k < w.heap.size :=
  ⟨h.cell 0, h.cell 1, h.cell 2, h.cell 3, h.cell 4, h.cell 5, h.cell 6, h.lt⟩

set_option maxRecDepth 100000 in
set_option maxHeartbeats 8000000 in
theorem upper_any (w : World) (bT n : Nat) (vr vb vm vc vv vg : Value) (rows : List Rw) (v : Nat) (h : TBlk w bT n vr vb vm vc vv vg) (hr : IsRows w vr rows) (hn : n ≤ 12) (h40 : rows.length ≤ 40) (hv : v < n + rows.length) :
    Calls Try.prog 70 #[.pointer (some ⟨bT, 0, none⟩), .int .i64 (v : Int)] w fun e w' => ∃ z : PV, e = .returned (.tuple #[z.v, .bool (hasUp n v)]) ∧ z.is (upP n rows v) ∧ Keep NoS w w' := by
  unfold hasUp upP
  have HT := Lib.hid h
  have HR := Lib.hid hr
  have hvI : (v : Int) < 1000 := by omega
  obtain ⟨oa, ca, rfl, _, _⟩ := hr.len
  unfold TBlk at HT h
  obtain ⟨c0, c1, _, _, _, _, _, cl⟩ := h.seven
  clear h hr
  have W4 : Hid (Keep NoS w (w.alloc (.cells #[.bool false, .string ⟨#[]⟩, .bool false, .string ⟨#[]⟩, .bool false, .string ⟨#[]⟩, .bool false, .string ⟨#[]⟩] 119))) := Lib.hid ((Keep.refl _ _).alloc _)
  have HB4 : Hid (Blk (w.alloc (.cells #[.bool false, .string ⟨#[]⟩, .bool false, .string ⟨#[]⟩, .bool false, .string ⟨#[]⟩, .bool false, .string ⟨#[]⟩] 119)) w.heap.size #[.bool false, .string ⟨#[]⟩, .bool false, .string ⟨#[]⟩, .bool false, .string ⟨#[]⟩, .bool false, .string ⟨#[]⟩]) := Lib.hid (blk_at _ _ rfl)
  by_cases hvn : v < n
  case pos =>
    have hlt : (v : Int) < (n : Int) := by omega
    rw [if_pos hvn, decide_eq_false (by omega)]
    clear hvn
    go_enter Try.func70, Try.ntmps70
    go_upto_region 2 with fail
    generalize w.alloc (.cells #[.bool false, .string ⟨#[]⟩, .bool false, .string ⟨#[]⟩, .bool false, .string ⟨#[]⟩, .bool false, .string ⟨#[]⟩] 119) = w0 at *
    generalize hb4 : w.heap.size = b4 at *
    obtain ⟨s0, s1, s2, s3, s4, s5, s6, s7, sl⟩ := HB4.out.eight
    obtain ⟨f0, f1, f2, f3, f4, f5, f6, f7⟩ := HB4.out.eightF
    clear c0 c1 cl
    go_simp
    repeat go_step
    refine bodyPost_ret (by simp [results, Try.results70, go_sem, s0, s1, s2, s3, s4, s5, s6, s7, sl]; rfl) rfl ?_
    exact ⟨pv0, rfl, pv0_is, keep_set8 W4.out (by omega) _ _ _ _ _ _ _ _⟩
  case neg =>
    have hlt : ¬ (v : Int) < (n : Int) := by omega
    rw [if_neg hvn, decide_eq_true (by omega)]
    obtain ⟨i, hvi⟩ : ∃ i, v - n = i := ⟨_, rfl⟩
    have hi : i < rows.length := by omega
    have hiI : (i : Int) < (rows.length : Int) := by omega
    rw [hvi, row_getD hi]
    obtain ⟨b, o, rfl, hb, hrow⟩ := HR.out.at hi
    obtain ⟨os, cs, r0, r1, r2, hrw⟩ := hrow.row
    obtain ⟨_, _, _, hk64, ht64, _⟩ := hrw
    have e1 : (v : Int) - (n : Int) = (i : Int) := by omega
    have e2 : ¬ (i : Int) < 0 := by omega
    have e3 : IntKind.i64.wrap (i : Int) = (i : Int) := Go.IntWalk.i64_in _ (by omega)
    clear hvi hv
    generalize rows[i] = r at *
    obtain ⟨rof, rkd, rto⟩ := r
    simp only at r0 r1 r2 hk64 ht64 ⊢
    obtain ⟨sm, hsm⟩ : ∃ sm : Rat, (if rkd = 2 then (-1 : Rat) else 0) = sm := ⟨_, rfl⟩
    rw [hsm]
    have HSM := Lib.hid hsm
    clear hsm
    unfold I64 at hk64 ht64
    have CI := fun w => Lib.hid (exInt_any w rto ht64.1 ht64.2)
    have CM := fun w => Lib.hid (exInt_any w (-1) (by omega) (by omega))
    obtain ⟨⟨pb, pS, pc, pU⟩, hp, hpn⟩ := numInt rto
    obtain ⟨⟨qb, qS, qc, qU⟩, hq, hqn⟩ := numInt (-1)
    rw [hp] at CI
    rw [hq] at CM
    unfold NV.v at CI CM
    simp only at CI CM
    have HP := Lib.hid (And.intro hpn hqn)
    clear hvn hk64 ht64 hp hq hpn hqn hrow
    go_enter Try.func70, Try.ntmps70
    go_upto_region 3 with fail
    have hb40 := HB4.out.lt
    generalize w.alloc (.cells #[.bool false, .string ⟨#[]⟩, .bool false, .string ⟨#[]⟩, .bool false, .string ⟨#[]⟩, .bool false, .string ⟨#[]⟩] 119) = w0 at *
    generalize hb4 : w.heap.size = b4 at *
    have HS4 : Hid (w.heap.size ≤ b4) := Lib.hid (by omega)
    have hcl0 : bT < w0.heap.size := Nat.lt_of_lt_of_le (by omega) W4.out.size
    have hbl0 : b < w0.heap.size := Nat.lt_of_lt_of_le (by omega) W4.out.size
    have d0 := (W4.out.cell (by omega)).trans c0
    have d1 := (W4.out.cell (by omega)).trans c1
    have g0 := (W4.out.cell (by omega)).trans r0
    have g1 := (W4.out.cell (by omega)).trans r1
    have g2 := (W4.out.cell (by omega)).trans r2
    clear c0 c1 cl r0 r1 r2 hb
    refine wp_region_by (fun w' => Keep NoS w0 w') [13] [([0, 1, 2, 3, 4, 5, 6, 7, 8, 9, 10, 11], 12), ([], 13)] [] (by kernel_rfl) (by kernel_rfl) (by (repeat' (with_reducible first | assumption | exact HK.out | exact keR | refine keA ?_ | refine keS ?_ fun h => absurd h (by omega) | refine keN ?_ | refine keD ?_))) ?_
    intro X W hne hF hcl
    have HCL := Lib.hid hcl
    have x0 := fun x => ((hF x).cell hcl0).trans d0
    have x1 := fun x => ((hF x).cell hcl0).trans d1
    have y0 := fun x => ((hF x).cell hbl0).trans g0
    have y1 := fun x => ((hF x).cell hbl0).trans g1
    have y2 := fun x => ((hF x).cell hbl0).trans g2
    clear hF hcl d0 d1 g0 g1 g2
    simp only [wpPlan, pickOps, List.getElem?_toArray, List.getElem?_cons_zero, List.getElem?_cons_succ, clsOf, Bool.false_eq_true, if_false]
    (repeat (quiet_step (fail))); refine wpQuiet_nil ?_
    refine wpAt rfl rfl fun K hK => ?_
    go_simp
    have k5 : Keep NoS w0 (w0.alloc (.cells #[.slice none 0 0, .int .i64 0, .int .i64 0] 42)).drew := ((Keep.refl NoS w0).alloc _).drew
    refine hK _ _ ⟨fun _ => HCL.out _ k5, ?_⟩
    clear hK K
    have B6 : Hid (Blk (w0.alloc (.cells #[.slice none 0 0, .int .i64 0, .int .i64 0] 42)).drew w0.heap.size #[.slice none 0 0, .int .i64 0, .int .i64 0]) := Lib.hid ((blk_at _ _ rfl).keep (Keep.refl NoS _).drew)
    have HB4 := Lib.hid (HB4.out.keep k5)
    have K5 := Lib.hid (W4.out.both k5)
    have HS6 : Hid (w.heap.size ≤ w0.heap.size) := Lib.hid W4.out.size
    have h46 : b4 ≠ w0.heap.size := Nat.ne_of_lt hb40
    generalize (w0.alloc (.cells #[.slice none 0 0, .int .i64 0, .int .i64 0] 42)).drew = w5 at *
    generalize w0.heap.size = b6 at *
    obtain ⟨t0, t1, t2, u0, u1, u2, tl⟩ := B6.out.tri
    (repeat (quiet_step (fail))); refine wpQuiet_nil ?_
    refine wpAt rfl rfl fun K hK => ?_
    go_simp
    refine hK _ _ ⟨fun h => (by simp at h), ?_⟩
    clear hK K x0 x1 y0 y1 y2
    have HB6 := Lib.hid (B6.out.set3 (.slice os rof.length cs) (.int .i64 rkd) (.int .i64 rto))
    have HB4 := Lib.hid (HB4.out.other3 h46 (.slice os rof.length cs) (.int .i64 rkd) (.int .i64 rto))
    have K6 := Lib.hid (keep_set3 K5.out HS6.out (.slice os rof.length cs) (.int .i64 rkd) (.int .i64 rto))
    clear t0 t1 t2 u0 u1 u2 tl B6
    generalize ((w5.setCell ⟨b6, 0, none⟩ (.slice os rof.length cs)).setCell ⟨b6, 1, none⟩ (.int .i64 rkd)).setCell ⟨b6, 2, none⟩ (.int .i64 rto) = w6 at *
    (repeat (quiet_step (fail))); refine wpQuiet_nil ?_
    refine NoPanic.normal ?_
    obtain ⟨t0, t1, t2, u0, u1, u2, tl⟩ := HB6.out.tri
    go_wp2_with fail
    refine (CI _).out.mono ?_
    rintro e w7 ⟨rfl, hk⟩
    have HB6 := Lib.hid (HB6.out.keep hk)
    have HB4 := Lib.hid (HB4.out.keep hk)
    have K7 := Lib.hid (K6.out.both hk)
    clear t0 t1 t2 u0 u1 u2 tl hk CI
    have ka : Keep NoS w7 (w7.alloc (.cells #[.bool pb, .string pS, .bool pc, .string pU, .bool false, .string ⟨#[]⟩, .bool false, .string ⟨#[]⟩] 119)) := (Keep.refl _ _).alloc _
    have HB7 : Hid (Blk (w7.alloc (.cells #[.bool pb, .string pS, .bool pc, .string pU, .bool false, .string ⟨#[]⟩, .bool false, .string ⟨#[]⟩] 119)) w7.heap.size #[.bool pb, .string pS, .bool pc, .string pU, .bool false, .string ⟨#[]⟩, .bool false, .string ⟨#[]⟩]) := Lib.hid (blk_at _ _ rfl)
    have HB6 := Lib.hid (HB6.out.keep ka)
    have h47 : b4 < w7.heap.size := HB4.out.lt
    have HB4 := Lib.hid (HB4.out.keep ka)
    have HS7 : Hid (w.heap.size ≤ w7.heap.size) := Lib.hid K7.out.size
    have K8 := Lib.hid (K7.out.both ka)
    go_upto_region 5 with fail
    clear ka
    generalize w7.alloc (.cells #[.bool pb, .string pS, .bool pc, .string pU, .bool false, .string ⟨#[]⟩, .bool false, .string ⟨#[]⟩] 119) = w8 at *
    generalize w7.heap.size = b7 at *
    have n47 : ¬ b4 = b7 := by omega
    have h47' : b4 ≠ b7 := n47
    obtain ⟨t0, t1, t2, u0, u1, u2, tl⟩ := HB6.out.tri
    by_cases h2 : rkd = 2
    case neg =>
      have e2' : (rkd == 2) = false := by rw [beq_eq_false_iff_ne]; exact h2
      obtain ⟨s0, s1, s2, s3, s4, s5, s6, s7, sl⟩ := HB7.out.eight
      obtain ⟨f0, f1, f2, f3, f4, f5, f6, f7⟩ := HB4.out.eightF
      obtain ⟨v0, v1, v2, v3, v4, v5, v6, v7, vl⟩ := HB4.out.eight
      have HSM0 : Hid (sm = 0) := Lib.hid (by have := HSM.out; rw [if_neg h2] at this; exact this.symm)
      clear h2 HSM
      have HRES := Lib.hid (HB4.out.set8 (.bool pb) (.string pS) (.bool pc) (.string pU) (.bool false) (.string ⟨#[]⟩) (.bool false) (.string ⟨#[]⟩))
      have K9 := Lib.hid (keep_set8 K8.out HS4.out (.bool pb) (.string pS) (.bool pc) (.string pU) (.bool false) (.string ⟨#[]⟩) (.bool false) (.string ⟨#[]⟩))
      go_upto_region 7 with fail
      go_simp
      repeat go_step
      obtain ⟨q0, q1, q2, q3, q4, q5, q6, q7, ql⟩ := HRES.out.eight
      refine bodyPost_ret (by simp [results, Try.results70, go_sem, q0, q1, q2, q3, q4, q5, q6, q7, ql]; rfl) rfl ?_
      exact ⟨⟨⟨pb, pS, pc, pU⟩, nv0⟩, rfl, ⟨HP.out.1, by rw [HSM0.out]; exact nv0_num⟩, K9.out⟩
    case pos =>
      subst h2
      have HSM1 : Hid (sm = ((-1 : Int) : Rat)) := Lib.hid (by have := HSM.out; rw [if_pos rfl] at this; exact this.symm)
      clear HSM
      go_wp2_with fail
      refine (CM _).out.mono ?_
      rintro e w9 ⟨rfl, hk⟩
      have HB7 := Lib.hid (HB7.out.keep hk)
      have HB4 := Lib.hid (HB4.out.keep hk)
      have K9 := Lib.hid (K8.out.both hk)
      clear hk CM
      obtain ⟨s0, s1, s2, s3, s4, s5, s6, s7, sl⟩ := HB7.out.eight
      obtain ⟨g0, g1, g2, g3, g4, g5, g6, g7⟩ := HB7.out.eightF
      go_upto_region 7 with fail
      have HB7 := Lib.hid (HB7.out.set4hi (.bool qb) (.string qS) (.bool qc) (.string qU))
      have HB4 := Lib.hid (HB4.out.otherN (o := 4) h47' (.bool qb) (.string qS) (.bool qc) (.string qU))
      have K10 := Lib.hid (keep_setN (o := 4) K9.out HS7.out (.bool qb) (.string qS) (.bool qc) (.string qU))
      clear s0 s1 s2 s3 s4 s5 s6 s7 sl g0 g1 g2 g3 g4 g5 g6 g7
      generalize (((w9.setCell ⟨b7, 4, none⟩ (.bool qb)).setCell ⟨b7, 5, none⟩ (.string qS)).setCell ⟨b7, 6, none⟩ (.bool qc)).setCell ⟨b7, 7, none⟩ (.string qU) = w10 at *
      obtain ⟨s0, s1, s2, s3, s4, s5, s6, s7, sl⟩ := HB7.out.eight
      obtain ⟨f0, f1, f2, f3, f4, f5, f6, f7⟩ := HB4.out.eightF
      obtain ⟨v0, v1, v2, v3, v4, v5, v6, v7, vl⟩ := HB4.out.eight
      have HRES := Lib.hid (HB4.out.set8 (.bool pb) (.string pS) (.bool pc) (.string pU) (.bool qb) (.string qS) (.bool qc) (.string qU))
      have K11 := Lib.hid (keep_set8 K10.out HS4.out (.bool pb) (.string pS) (.bool pc) (.string pU) (.bool qb) (.string qS) (.bool qc) (.string qU))
      go_simp
      repeat go_step
      obtain ⟨q0, q1, q2, q3, q4, q5, q6, q7, ql⟩ := HRES.out.eight
      refine bodyPost_ret (by simp [results, Try.results70, go_sem, q0, q1, q2, q3, q4, q5, q6, q7, ql]; rfl) rfl ?_
      exact ⟨⟨⟨pb, pS, pc, pU⟩, ⟨qb, qS, qc, qU⟩⟩, rfl, ⟨HP.out.1, by rw [HSM1.out]; exact HP.out.2⟩, K11.out⟩

set_option maxRecDepth 100000 in
set_option maxHeartbeats 8000000 in
theorem lower_any (w : World) (bT n : Nat) (vr vb vm vc vv vg : Value) (rows : List Rw) (v : Nat) (h : TBlk w bT n vr vb vm vc vv vg) (hr : IsRows w vr rows) (hn : n ≤ 12) (h40 : rows.length ≤ 40) (hv : v < n + rows.length) :
    Calls Try.prog 71 #[.pointer (some ⟨bT, 0, none⟩), .int .i64 (v : Int)] w fun e w' => ∃ z : PV, e = .returned (.tuple #[z.v, .bool (hasLo n rows v)]) ∧ z.is (loP n rows v) ∧ Keep NoS w w' := by
  unfold hasLo loP
  have HT := Lib.hid h
  have HR := Lib.hid hr
  have hvI : (v : Int) < 1000 := by omega
  obtain ⟨oa, ca, rfl, _, _⟩ := hr.len
  unfold TBlk at HT h
  obtain ⟨c0, c1, _, _, _, _, _, cl⟩ := h.seven
  clear h hr
  have W4 : Hid (Keep NoS w (w.alloc (.cells #[.bool false, .string ⟨#[]⟩, .bool false, .string ⟨#[]⟩, .bool false, .string ⟨#[]⟩, .bool false, .string ⟨#[]⟩] 119))) := Lib.hid ((Keep.refl _ _).alloc _)
  have HB4 : Hid (Blk (w.alloc (.cells #[.bool false, .string ⟨#[]⟩, .bool false, .string ⟨#[]⟩, .bool false, .string ⟨#[]⟩, .bool false, .string ⟨#[]⟩] 119)) w.heap.size #[.bool false, .string ⟨#[]⟩, .bool false, .string ⟨#[]⟩, .bool false, .string ⟨#[]⟩, .bool false, .string ⟨#[]⟩]) := Lib.hid (blk_at _ _ rfl)
  by_cases hvn : v < n
  case pos =>
    have hlt : (v : Int) < (n : Int) := by omega
    rw [if_pos (.inl hvn), decide_eq_false (by omega)]
    clear hvn
    go_enter Try.func71, Try.ntmps71
    go_upto_region 1 with fail
    have d0 := (W4.out.cell (by omega)).trans c0
    have hcl0 : bT < (w.alloc (.cells #[.bool false, .string ⟨#[]⟩, .bool false, .string ⟨#[]⟩, .bool false, .string ⟨#[]⟩, .bool false, .string ⟨#[]⟩] 119)).heap.size := Nat.lt_of_lt_of_le (by omega) W4.out.size
    generalize w.alloc (.cells #[.bool false, .string ⟨#[]⟩, .bool false, .string ⟨#[]⟩, .bool false, .string ⟨#[]⟩, .bool false, .string ⟨#[]⟩] 119) = w0 at *
    generalize hb4 : w.heap.size = b4 at *
    refine wp_region_by (fun w' => Keep NoS w0 w') [] [] [0, 1, 2, 3, 4, 5, 6, 7, 8, 9, 10, 11, 12, 13, 14, 15, 16, 17, 18, 19, 20, 21] (by kernel_rfl) (by kernel_rfl) (by (repeat' (with_reducible first | assumption | exact HK.out | exact keR | refine keA ?_ | refine keS ?_ fun h => absurd h (by omega) | refine keN ?_ | refine keD ?_))) ?_
    intro X W hne hF hcl
    have x0 := fun x => ((hF x).cell hcl0).trans d0
    clear hF hcl
    simp only [wpPlan, pickOps, List.getElem?_toArray, List.getElem?_cons_zero, List.getElem?_cons_succ, clsOf, Bool.false_eq_true, if_false]
    (repeat (go_big_quiet_step (fail))); refine wpQuiet_nil ?_
    refine NoPanic.normal ?_
    have HB4 := Lib.hid (HB4.out.keep (Keep.refl NoS w0).drew)
    have W4 := Lib.hid (W4.out.drew)
    clear x0 d0 hcl0 c0 c1 cl
    generalize w0.drew = w0 at *
    obtain ⟨s0, s1, s2, s3, s4, s5, s6, s7, sl⟩ := HB4.out.eight
    obtain ⟨f0, f1, f2, f3, f4, f5, f6, f7⟩ := HB4.out.eightF
    go_upto_region 2 with fail
    go_simp
    repeat go_step
    refine bodyPost_ret (by simp [results, Try.results71, go_sem, s0, s1, s2, s3, s4, s5, s6, s7, sl]; rfl) rfl ?_
    exact ⟨pv0, rfl, pv0_is, keep_set8 W4.out (by omega) _ _ _ _ _ _ _ _⟩
  case neg =>
    have hlt : ¬ (v : Int) < (n : Int) := by omega
    obtain ⟨i, hvi⟩ : ∃ i, v - n = i := ⟨_, rfl⟩
    have hi : i < rows.length := by omega
    have hiI : (i : Int) < (rows.length : Int) := by omega
    have hge : n ≤ v := by omega
    rw [hvi, row_getD hi]
    obtain ⟨b, o, rfl, hb, hrow⟩ := HR.out.at hi
    obtain ⟨os, cs, r0, r1, r2, hrw⟩ := hrow.row
    obtain ⟨_, _, _, hk64, ht64, _⟩ := hrw
    have e1 : (v : Int) - (n : Int) = (i : Int) := by omega
    have e2 : ¬ (i : Int) < 0 := by omega
    have e3 : IntKind.i64.wrap (i : Int) = (i : Int) := Go.IntWalk.i64_in _ (by omega)
    generalize rows[i] = r at *
    obtain ⟨rof, rkd, rto⟩ := r
    simp only at r0 r1 r2 hk64 ht64 ⊢
    unfold I64 at hk64 ht64
    obtain ⟨hl, hhl⟩ : ∃ hl : Bool, decide (n ≤ v ∧ rkd = 3) = hl := ⟨_, rfl⟩
    obtain ⟨lp, hlp⟩ : ∃ lp : Pr, (if v < n ∨ rkd ≠ 3 then pr0 else ⟨(rto : Rat), 0⟩) = lp := ⟨_, rfl⟩
    rw [hhl, hlp]
    have HHL := Lib.hid (And.intro hhl hlp)
    clear hhl hlp
    have CI := fun w => Lib.hid (exInt_any w rto ht64.1 ht64.2)
    obtain ⟨⟨pb, pS, pc, pU⟩, hp, hpn⟩ := numInt rto
    rw [hp] at CI
    unfold NV.v at CI
    simp only at CI
    have HP := Lib.hid hpn
    clear hvi hv hk64 ht64 hp hpn hrow
    have W4' := W4
    go_enter Try.func71, Try.ntmps71
    go_upto_region 1 with fail
    have hcl0 : bT < (w.alloc (.cells #[.bool false, .string ⟨#[]⟩, .bool false, .string ⟨#[]⟩, .bool false, .string ⟨#[]⟩, .bool false, .string ⟨#[]⟩] 119)).heap.size := Nat.lt_of_lt_of_le (by omega) W4.out.size
    have hbl0 : b < (w.alloc (.cells #[.bool false, .string ⟨#[]⟩, .bool false, .string ⟨#[]⟩, .bool false, .string ⟨#[]⟩, .bool false, .string ⟨#[]⟩] 119)).heap.size := Nat.lt_of_lt_of_le (by omega) W4.out.size
    have d0 := (W4.out.cell (by omega)).trans c0
    have d1 := (W4.out.cell (by omega)).trans c1
    have g1 := (W4.out.cell (by omega)).trans r1
    have g2 := (W4.out.cell (by omega)).trans r2
    generalize w.alloc (.cells #[.bool false, .string ⟨#[]⟩, .bool false, .string ⟨#[]⟩, .bool false, .string ⟨#[]⟩, .bool false, .string ⟨#[]⟩] 119) = w0 at *
    generalize hb4 : w.heap.size = b4 at *
    have HS4 : Hid (w.heap.size ≤ b4) := Lib.hid (by omega)
    clear hb4 W4' c0 c1 cl r0 r1 r2 hb
    refine wp_region_by (fun w' => Keep NoS w0 w') [] [] [0, 1, 2, 3, 4, 5, 6, 7, 8, 9, 10, 11, 12, 13, 14, 15, 16, 17, 18, 19, 20, 21] (by kernel_rfl) (by kernel_rfl) (by (repeat' (with_reducible first | assumption | exact HK.out | exact keR | refine keA ?_ | refine keS ?_ fun h => absurd h (by omega) | refine keN ?_ | refine keD ?_))) ?_
    intro X W hne hF hcl
    have x0 := fun x => ((hF x).cell hcl0).trans d0
    have x1 := fun x => ((hF x).cell hcl0).trans d1
    have y1 := fun x => ((hF x).cell hbl0).trans g1
    clear hF hcl
    by_cases h3 : rkd = 3
    case neg =>
      have e4 : (rkd != 3) = true := by rw [bne_iff_ne]; exact h3
      have HH : Hid (hl = false ∧ lp = pr0) := Lib.hid (by
        obtain ⟨h1, h2⟩ := HHL.out
        rw [decide_eq_false (fun h => h3 h.2)] at h1
        rw [if_pos (.inr h3)] at h2
        exact ⟨h1.symm, h2.symm⟩)
      clear h3 HHL
      simp only [wpPlan, pickOps, List.getElem?_toArray, List.getElem?_cons_zero, List.getElem?_cons_succ, clsOf, Bool.false_eq_true, if_false]
      (repeat (go_big_quiet_step (fail))); refine wpQuiet_nil ?_
      refine NoPanic.normal ?_
      have HB4 := Lib.hid (HB4.out.keep (Keep.refl NoS w0).drew)
      have W4 := Lib.hid (W4.out.drew)
      clear x0 x1 y1 d0 d1 g1 g2 hcl0 hbl0
      generalize w0.drew = w0 at *
      obtain ⟨s0, s1, s2, s3, s4, s5, s6, s7, sl⟩ := HB4.out.eight
      obtain ⟨f0, f1, f2, f3, f4, f5, f6, f7⟩ := HB4.out.eightF
      go_upto_region 2 with fail
      go_simp
      repeat go_step
      refine bodyPost_ret (by simp [results, Try.results71, go_sem, s0, s1, s2, s3, s4, s5, s6, s7, sl]; rfl) rfl ?_
      exact ⟨pv0, by rw [HH.out.1]; rfl, by rw [HH.out.2]; exact pv0_is, keep_set8 W4.out HS4.out _ _ _ _ _ _ _ _⟩
    case pos =>
      subst h3
      have HH : Hid (hl = true ∧ lp = ⟨(rto : Rat), 0⟩) := Lib.hid (by
        obtain ⟨h1, h2⟩ := HHL.out
        rw [decide_eq_true ⟨hge, rfl⟩] at h1
        rw [if_neg (by omega)] at h2
        exact ⟨h1.symm, h2.symm⟩)
      clear HHL
      simp only [wpPlan, pickOps, List.getElem?_toArray, List.getElem?_cons_zero, List.getElem?_cons_succ, clsOf, Bool.false_eq_true, if_false]
      (repeat (go_big_quiet_step (fail))); refine wpQuiet_nil ?_
      refine NoPanic.normal ?_
      have HB4 := Lib.hid (HB4.out.keep (Keep.refl NoS w0).drew)
      have W4 := Lib.hid (W4.out.drew)
      have d0 := ((Keep.refl NoS w0).drew.cell hcl0).trans d0
      have d1 := ((Keep.refl NoS w0).drew.cell hcl0).trans d1
      have g2 := ((Keep.refl NoS w0).drew.cell hbl0).trans g2
      have hcl0 := Nat.lt_of_lt_of_le hcl0 (Keep.refl NoS w0).drew.size
      have hbl0 := Nat.lt_of_lt_of_le hbl0 (Keep.refl NoS w0).drew.size
      clear x0 x1 y1 g1
      generalize w0.drew = w0 at *
      go_upto_region 3 with fail
      refine wp_region_by (fun w' => Keep NoS w0 w') [15, 16] [([0, 1, 2, 3, 4, 5, 6, 7, 8, 9, 10, 11, 12], 13), ([14], 15)] [16] (by kernel_rfl) (by kernel_rfl) (by (repeat' (with_reducible first | assumption | exact HK.out | exact keR | refine keA ?_ | refine keS ?_ fun h => absurd h (by omega) | refine keN ?_ | refine keD ?_))) ?_
      intro X W hne hF hcl
      have HCL := Lib.hid hcl
      have x0 := fun x => ((hF x).cell hcl0).trans d0
      have x1 := fun x => ((hF x).cell hcl0).trans d1
      have y2 := fun x => ((hF x).cell hbl0).trans g2
      clear hF hcl d0 d1 g2
      simp only [wpPlan, pickOps, List.getElem?_toArray, List.getElem?_cons_zero, List.getElem?_cons_succ, clsOf, Bool.false_eq_true, if_false]
      (repeat (go_big_quiet_step (fail))); refine wpQuiet_nil ?_
      refine wpAt rfl rfl fun K hK => ?_
      go_simp
      refine (CI _).out.mono ?_
      rintro e w1 ⟨rfl, hk⟩
      have k1 : Keep NoS w0 w1 := Keep.trans (by (repeat' (with_reducible first | assumption | exact HK.out | exact keR | refine keA ?_ | refine keS ?_ fun h => absurd h (by omega) | refine keN ?_ | refine keD ?_))) hk fun _ _ _ h => h
      refine hK _ _ ⟨fun _ => HCL.out _ k1, ?_⟩
      clear hK K hk CI
      have HB4 := Lib.hid (HB4.out.keep k1)
      have K1 := Lib.hid (W4.out.both k1)
      clear k1
      obtain ⟨v0, v1, v2, v3, v4, v5, v6, v7, vl⟩ := HB4.out.eight
      obtain ⟨f0, f1, f2, f3, f4, f5, f6, f7⟩ := HB4.out.eightF
      (repeat (go_big_quiet_step (fail))); refine wpQuiet_nil ?_
      refine wpAt rfl rfl fun K hK => ?_
      go_simp
      refine hK _ _ ⟨fun h => (by simp at h), ?_⟩
      clear hK K x0 x1 y2
      have HRES := Lib.hid (HB4.out.set8 (.bool pb) (.string pS) (.bool pc) (.string pU) (.bool false) (.string ⟨#[]⟩) (.bool false) (.string ⟨#[]⟩))
      have K2 := Lib.hid (keep_set8 K1.out HS4.out (.bool pb) (.string pS) (.bool pc) (.string pU) (.bool false) (.string ⟨#[]⟩) (.bool false) (.string ⟨#[]⟩))
      clear v0 v1 v2 v3 v4 v5 v6 v7 vl f0 f1 f2 f3 f4 f5 f6 f7
      generalize (((((((w1.setCell ⟨b4, 0, none⟩ (.bool pb)).setCell ⟨b4, 1, none⟩ (.string pS)).setCell ⟨b4, 2, none⟩ (.bool pc)).setCell ⟨b4, 3, none⟩ (.string pU)).setCell ⟨b4, 4, none⟩ (.bool false)).setCell ⟨b4, 5, none⟩ (.string ⟨#[]⟩)).setCell ⟨b4, 6, none⟩ (.bool false)).setCell ⟨b4, 7, none⟩ (.string ⟨#[]⟩) = w2 at *
      (repeat (go_big_quiet_step (fail))); refine wpQuiet_nil ?_
      refine NoPanic.normal ?_
      obtain ⟨q0, q1, q2, q3, q4, q5, q6, q7, ql⟩ := HRES.out.eight
      go_simp
      repeat go_step
      refine bodyPost_ret (by simp [results, Try.results71, go_sem, q0, q1, q2, q3, q4, q5, q6, q7, ql]; rfl) rfl ?_
      exact ⟨⟨⟨pb, pS, pc, pU⟩, nv0⟩, by rw [HH.out.1]; rfl, by rw [HH.out.2]; exact ⟨HP.out, nv0_num⟩, K2.out⟩
end Go.Proofs.Ytamjmcdlddocgaa
