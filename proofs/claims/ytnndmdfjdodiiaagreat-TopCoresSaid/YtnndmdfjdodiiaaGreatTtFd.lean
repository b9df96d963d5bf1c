/- Package form: functions. -/
import Derived.Test.YtnndmdfjdodiiaaGreatTtFc
namespace Go.Proofs.YtnndmdfjdodiiaaGreat
open Go.ChangeShapes Go.WideShapes Go.RowKit Go.Maps
set_option linter.unusedVariables false
set_option linter.unusedSimpArgs false

theorem cffn (a : Array Value) (w : World) : Sem.run Tryz.prog (callFunc 129 a) w = .ok (.enter 129 a) w := by kernel_rfl
set_option maxRecDepth 100000 in
theorem ffn1_any (w : World) (b g n cg m : Nat) (v0 v2 : Value) (th : List Int) (hb : w.heap[b]? = some (.cells #[v0, .slice (some ⟨g, 0, none⟩) n cg, v2] TMd (0, 0))) (hg : w.heap[g]? = some (.cells (iv th).toArray TI (0, 0))) (hl : th.length = n) (i j : Nat) (hi : i < n) (hj : j < n) :
    Calls Tryz.prog 129 #[.int .i64 (i : Int), .int .i64 (j : Int), .pointer (some ⟨b, 0, none⟩)] w fun e w' => e = .returned (.bool (decide (Cl.clAt th i = Cl.clAt th j))) ∧ ∃ z, w' = w.drewN z := by
  have x1 := cell_of_heap (o := 1) hb rfl
  have xl := lt_of_heap hb
  have p1 := blk_cl hg hl hi
  have p2 := blk_cl hg hl hj
  have gl := lt_of_heap hg
  have i1 : (i : Int) < (n : Int) := by omega
  have j1 : (j : Int) < (n : Int) := by omega
  generalize Cl.clAt th i = x at *
  generalize Cl.clAt th j = y at *
  clear hb hg hl
  go_enter Tryz.func129, Tryz.ntmps129
  go_wp2
  go_quiet (fail)
  go_wp2
  go_ret
  exact ⟨congrArg (fun b : Bool => Ending.returned (.bool b)) (by rw [Bool.eq_iff_iff]; simp), _, rfl⟩
theorem funL_at {th : List Int} {t : Cl.Tm} {i : Nat} {us : List Cl.Tm} {k : Nat} (hk : k < us.length) : Sv.funL th t i (us.drop k) k = (!Sv.funB th t us[k] i k && Sv.funL th t i (us.drop (k + 1)) (k + 1)) := by
  rw [List.drop_eq_getElem_cons hk]; rfl
theorem funsL_at {th : List Int} {terms ts : List Cl.Tm} {i : Nat} (hi : i < ts.length) : Sv.funsL th terms (ts.drop i) i = (Sv.funL th ts[i] i (terms.take i) 0 && Sv.funsL th terms (ts.drop (i + 1)) (i + 1)) := by
  rw [List.drop_eq_getElem_cons hi]; rfl
set_option maxRecDepth 100000 in
set_option maxHeartbeats 16000000 in
theorem ffuncs_any (w : World) (L : FmL) (M : MdL) (f : Sv.Frm) (holds : List Bool) (th : List Int) (h : IsForm w L f) (hok : FmOK f) (hm : IsMd w M f holds th) :
    Calls Tryz.prog 92 #[L.v f, M.v f.atoms.length f.terms.length] w fun e w' => e = .returned (.bool (Sv.funsL th f.terms f.terms 0)) ∧ Keep NoS w w' := by
  have HT := Lib.hid h.t
  have HOK := Lib.hid hok.t.ok
  have HG := Lib.hid hm.t
  have HTL := Lib.hid hm.tk.len
  have hct : f.terms.length ≤ L.ct := by obtain ⟨_, _, e, h, _⟩ := h.t.len; cases e; exact h
  have hn := hm.tn
  unfold FmL.v MdL.v
  obtain ⟨ot, ct, oa, ca, oc, cc⟩ := L
  obtain ⟨oh, ch, g, cg, on, cn⟩ := M
  simp only at HT HG hct ⊢
  generalize f.atoms.length = m at *
  generalize f.terms = terms at *
  generalize f.cls.length = q0 at *
  obtain ⟨n, hn'⟩ : ∃ n, terms.length = n := ⟨_, rfl⟩
  have HN := Lib.hid hn'
  rw [hn'] at HT HTL hct hn ⊢
  clear h hok hm hn'
  obtain ⟨w2, hw2⟩ : ∃ w2 : World, w2 = (w.alloc (.cells #[.slice ot n ct, .slice none 0 0, .slice oa m ca, .slice oc q0 cc] TFm)).alloc (.cells #[.slice oh m ch, .slice (some ⟨g, 0, none⟩) n cg, .slice on 0 cn] TMd) := ⟨_, rfl⟩
  obtain ⟨b2, hb2⟩ : ∃ b2, b2 = w.heap.size + 1 := ⟨_, rfl⟩
  have K2 : Hid (Keep NoS w w2) := Lib.hid (by rw [hw2]; exact ((Keep.refl _ _).alloc _).alloc _)
  have HB1 : Hid (w2.heap[w.heap.size]? = some (.cells #[.slice ot n ct, .slice none 0 0, .slice oa m ca, .slice oc q0 cc] TFm (0, 0))) := Lib.hid (by rw [hw2, heap_alloc_old _ _ _ (by simp)]; exact heap_alloc_at _ _ _ rfl)
  have HB2 : Hid (w2.heap[b2]? = some (.cells #[.slice oh m ch, .slice (some ⟨g, 0, none⟩) n cg, .slice on 0 cn] TMd (0, 0))) := Lib.hid (by rw [hw2, hb2]; exact heap_alloc_at _ _ _ (by simp))
  go_enter Tryz.func92, Tryz.ntmps92
  go_upto_region 1 with fail
  rw [← hw2, ← hb2]
  clear hw2 hb2
  generalize hg1 : w.heap.size = b1 at *
  clear hg1
  have x0 := cell_of_heap (o := 0) HB1.out rfl
  have xl := lt_of_heap HB1.out
  go_wp2
  go_loopw [12] (fun s wr => ∃ i : Nat, i ≤ n ∧ s = .int .i64 i ∧ Keep NoS w2 wr ∧ Sv.funsL th terms terms 0 = Sv.funsL th terms (terms.drop i) i) (fun s _ => (n - intOf s).toNat)
  case atStart => exact ⟨0, by omega, rfl, by (repeat' (with_reducible first | assumption | exact HK.out | exact keR | refine keA ?_ | refine keS ?_ fun h => absurd h (by omega) | refine keN ?_ | refine keD ?_)), rfl⟩
  case round =>
  obtain ⟨i, hi, rfl, hkr, hst⟩ := hrel
  have KR := Lib.hid hkr
  have HO := Lib.hid hst
  clear hkr hst
  by_cases hil : i < n
  case neg =>
    have hlt : ¬ (i : Int) < (n : Int) := by omega
    have HE : Hid (Sv.funsL th terms terms 0 = true) := Lib.hid (HO.out.trans (by rw [List.drop_eq_nil_of_le (by rw [HN.out]; omega)]; rfl))
    go_wp2
    go_ret
    exact ⟨by rw [HE.out]; rfl, K2.out.both KR.out⟩
  case pos =>
  have hlt : (i : Int) < (n : Int) := by omega
  have hit : i < terms.length := by rw [HN.out]; exact hil
  obtain ⟨bt, ft, okk, ckk, rfl, hbt, p0, p1, hki, hkc, hkm⟩ := HT.out.at hit
  have p0 := ((K2.out.both KR.out).cell hbt).trans p0
  have p1 := ((K2.out.both KR.out).cell hbt).trans p1
  have hbt := Nat.lt_of_lt_of_le hbt (K2.out.both KR.out).size
  have HKW := Lib.hid hki
  have HKO := Lib.hid (fun x hx => HOK.out.k _ (List.getElem_mem hit) x hx)
  have HOA := Lib.hid (HO.out.trans (funsL_at hit))
  generalize terms[i] = t at *
  obtain ⟨th0, tk⟩ := t
  simp only at p0 p1 hkc HKO HKW
  have hic : i ≤ ct := by omega
  have hicI : (i : Int) ≤ (ct : Int) := by omega
  have x0 := (KR.out.cell (i := 0) xl).trans x0
  have xlr := Nat.lt_of_lt_of_le xl KR.out.size
  have ka : Keep NoS wr (wr.alloc (.cells #[.int .i64 th0, .slice okk tk.length ckk] 30)) := (Keep.refl _ _).alloc _
  have HBT : Hid ((wr.alloc (.cells #[.int .i64 th0, .slice okk tk.length ckk] 30)).heap[wr.heap.size]? = some (.cells #[.int .i64 th0, .slice okk tk.length ckk] 30 (0, 0))) := Lib.hid (heap_alloc_at _ _ _ rfl)
  have x0 := (ka.cell (i := 0) xlr).trans x0
  have xlr := Nat.lt_of_lt_of_le xlr ka.size
  have K6 := Lib.hid (KR.out.both ka)
  clear hki HO ka
  go_upto_region 4 with fail
  generalize wr.alloc (.cells #[.int .i64 th0, .slice okk tk.length ckk] 30) = w6 at *
  generalize wr.heap.size = b6 at *
  clear p0 p1 hbt
  go_wp2
  clear x0 xlr
  go_loopw [22] (fun s wr => ∃ q : Nat, q ≤ i ∧ s = .int .i64 q ∧ Keep NoS w6 wr ∧ Sv.funL th ⟨th0, tk⟩ i (terms.take i) 0 = Sv.funL th ⟨th0, tk⟩ i ((terms.take i).drop q) q) (fun s _ => (i - intOf s).toNat)
  case atStart => exact ⟨0, by omega, rfl, by (repeat' (with_reducible first | assumption | exact HK.out | exact keR | refine keA ?_ | refine keS ?_ fun h => absurd h (by omega) | refine keN ?_ | refine keD ?_)), rfl⟩
  case round =>
  obtain ⟨q, hq, rfl, hkr, hin⟩ := hrel
  have KQ := Lib.hid hkr
  have HIN := Lib.hid hin
  clear hkr hin
  by_cases hqi : q < i
  case neg =>
    have hlt : ¬ (q : Int) < (i : Int) := by omega
    have HE : Hid (Sv.funsL th terms terms 0 = Sv.funsL th terms (terms.drop (i + 1)) (i + 1)) := Lib.hid (HOA.out.trans (by rw [HIN.out, List.drop_eq_nil_of_le (by rw [List.length_take]; omega)]; exact Bool.true_and _))
    go_wp2
    go_roundw
    case rel => exact ⟨i + 1, by omega, by go_num, K6.out.both KQ.out, HE.out⟩
    case measure => simp [intOf]; omega
  case pos =>
  have hlt : (q : Int) < (i : Int) := by omega
  have hqt : q < terms.length := by omega
  have hqu : q < (terms.take i).length := by rw [List.length_take]; omega
  obtain ⟨bt', ft', oku, cku, hv', hbt', u0, u1, hku, hkc2, _⟩ := (HT.out.keep (K2.out.both (K6.out.both KQ.out))).at hqt
  cases hv'
  have HKU := Lib.hid hku
  have HUO := Lib.hid (fun x hx => HOK.out.k _ (List.getElem_mem hqt) x hx)
  have HST := Lib.hid (HIN.out.trans (funL_at hqu))
  have hte : (terms.take i)[q] = terms[q] := List.getElem_take ..
  rw [hte] at HST
  generalize terms[q] = u at *
  obtain ⟨uh, uk⟩ := u
  simp only at u0 u1 hkc2 HKU HUO
  have ka : Keep NoS wr (wr.alloc (.cells #[.int .i64 uh, .slice oku uk.length cku] 30)) := (Keep.refl _ _).alloc _
  have HBU : Hid ((wr.alloc (.cells #[.int .i64 uh, .slice oku uk.length cku] 30)).heap[wr.heap.size]? = some (.cells #[.int .i64 uh, .slice oku uk.length cku] 30 (0, 0))) := Lib.hid (heap_alloc_at _ _ _ rfl)
  have K8 := Lib.hid (KQ.out.both ka)
  have HKU := Lib.hid (HKU.out.keep ka)
  clear hku hte HIN ka
  go_upto_region 7 with fail
  generalize wr.alloc (.cells #[.int .i64 uh, .slice oku uk.length cku] 30) = w8 at *
  generalize wr.heap.size = b8 at *
  clear u0 u1 hbt'
  have HBQ := Lib.hid ((K8.out.block b6 (lt_of_heap HBT.out) fun _ h => h).trans HBT.out)
  have HBM := Lib.hid (((K6.out.both K8.out).block b2 (lt_of_heap HB2.out) fun _ h => h).trans HB2.out)
  have HGQ := Lib.hid (((K2.out.both (K6.out.both K8.out)).block g (lt_of_heap HG.out) fun _ h => h).trans HG.out)
  have HKQ := Lib.hid (HKW.out.keep (K2.out.both (K6.out.both K8.out)))
  have hqn : q < n := by omega
  have hqnI : (q : Int) < (n : Int) := by omega
  have m1 := cell_of_heap (o := 1) HBM.out rfl
  have ml := lt_of_heap HBM.out
  have gl := lt_of_heap HGQ.out
  have pa := blk_cl HGQ.out HTL.out hil
  have pb := blk_cl HGQ.out HTL.out hqn
  have t0 := cell_of_heap (o := 0) HBQ.out rfl
  have t1 := cell_of_heap (o := 1) HBQ.out rfl
  have tl := lt_of_heap HBQ.out
  have v0 := cell_of_heap (o := 0) HBU.out rfl
  have v1 := cell_of_heap (o := 1) HBU.out rfl
  have vl := lt_of_heap HBU.out
  have CE := fun z => Lib.hid (eqFuncQ_any 129 #[.pointer (some ⟨b2, 0, none⟩)] cffn (fun x y => decide (Cl.clAt th x = Cl.clAt th y)) (w8.drewN z) (.slice okk tk.length ckk) (.slice oku uk.length cku) tk uk (HKQ.out.keep (Keep.drewN (Keep.refl _ _) _)) (HKU.out.keep (Keep.drewN (Keep.refl _ _) _)) fun z' x hx y hy => by
    have h1 := HKO.out x hx
    have h2 := HUO.out y hy
    rw [HN.out] at h1 h2
    have h3 := ffn1_any ((w8.drewN z).drewN z') b2 g n cg m _ _ th HBM.out HGQ.out HTL.out x.toNat y.toNat (by omega) (by omega)
    rw [Int.toNat_of_nonneg h1.1, Int.toNat_of_nonneg h2.1] at h3
    refine h3.mono ?_
    rintro e w9 ⟨rfl, z2, rfl⟩
    exact ⟨rfl, z' + z2, by simp [Nat.add_assoc]⟩)
  have HIB : Hid (Sv.funB th ⟨th0, tk⟩ ⟨uh, uk⟩ i q = (decide (th0 = uh) && (decide (Cl.clAt th i ≠ Cl.clAt th q) && Cl.kidsB th tk uk))) := Lib.hid rfl
  rw [kids_zip] at HIB
  generalize (decide (tk.length = uk.length) && (List.zip tk uk).all fun p => decide (Cl.clAt th p.1 = Cl.clAt th p.2)) = r at *
  generalize Cl.clAt th i = A at *
  generalize Cl.clAt th q = B at *
  by_cases hh : th0 = uh
  case neg =>
    have e2 : (th0 == uh) = false := by rw [beq_eq_false_iff_ne]; exact hh
    have HNX : Hid (Sv.funL th ⟨th0, tk⟩ i (terms.take i) 0 = Sv.funL th ⟨th0, tk⟩ i ((terms.take i).drop (q + 1)) (q + 1)) := Lib.hid (HST.out.trans (by rw [HIB.out, decide_eq_false hh, Bool.false_and]; exact Bool.true_and _))
    clear HST HIB CE hh
    go_quiet (fail)
    have K9 : Hid (Keep NoS w6 (w8.drewN nq)) := Lib.hid (K8.out.both (Keep.drewN (Keep.refl _ _) _))
    generalize w8.drewN nq = w9 at *
    clear m1 ml gl pa pb t0 t1 tl v0 v1 vl
    go_wp2
    go_roundw
    case rel => exact ⟨q + 1, by omega, by go_num, K9.out, HNX.out⟩
    case measure => simp [intOf]; omega
  case pos =>
  have e2 : (th0 == uh) = true := by rw [beq_iff_eq]; exact hh
  by_cases hAB : A = B
  case pos =>
    have e1 : (A != B) = false := by rw [hAB]; simp
    have HNX : Hid (Sv.funL th ⟨th0, tk⟩ i (terms.take i) 0 = Sv.funL th ⟨th0, tk⟩ i ((terms.take i).drop (q + 1)) (q + 1)) := Lib.hid (HST.out.trans (by rw [HIB.out, decide_eq_false (show ¬ A ≠ B by simp [hAB]), Bool.false_and, Bool.and_false]; exact Bool.true_and _))
    clear HST HIB CE hAB hh
    go_quiet (fail)
    have K9 : Hid (Keep NoS w6 (w8.drewN nq)) := Lib.hid (K8.out.both (Keep.drewN (Keep.refl _ _) _))
    generalize w8.drewN nq = w9 at *
    clear m1 ml gl pa pb t0 t1 tl v0 v1 vl
    go_wp2
    go_roundw
    case rel => exact ⟨q + 1, by omega, by go_num, K9.out, HNX.out⟩
    case measure => simp [intOf]; omega
  case neg =>
  have e1 : (A != B) = true := by rw [bne_iff_ne]; exact hAB
  cases r
  case false =>
    have HNX : Hid (Sv.funL th ⟨th0, tk⟩ i (terms.take i) 0 = Sv.funL th ⟨th0, tk⟩ i ((terms.take i).drop (q + 1)) (q + 1)) := Lib.hid (HST.out.trans (by rw [HIB.out, Bool.and_false, Bool.and_false]; exact Bool.true_and _))
    clear HST HIB hAB hh
    go_quiet (exact (CE _).out.mono (by rintro e w9 ⟨rfl, z', rfl⟩; exact ⟨rfl, _, by rw [World.drewN_drewN]⟩))
    clear CE
    have K9 : Hid (Keep NoS w6 (w8.drewN nq)) := Lib.hid (K8.out.both (Keep.drewN (Keep.refl _ _) _))
    generalize w8.drewN nq = w9 at *
    clear m1 ml gl pa pb t0 t1 tl v0 v1 vl
    go_wp2
    go_roundw
    case rel => exact ⟨q + 1, by omega, by go_num, K9.out, HNX.out⟩
    case measure => simp [intOf]; omega
  case true =>
    have HE : Hid (Sv.funsL th terms terms 0 = false) := Lib.hid (HOA.out.trans (by rw [HST.out, HIB.out, decide_eq_true hh, decide_eq_true (show A ≠ B from hAB)]; rfl))
    clear HST HIB hAB hh
    go_quiet (exact (CE _).out.mono (by rintro e w9 ⟨rfl, z', rfl⟩; exact ⟨rfl, _, by rw [World.drewN_drewN]⟩))
    have K9 : Hid (Keep NoS w6 (w8.drewN nq)) := Lib.hid (K8.out.both (Keep.drewN (Keep.refl _ _) _))
    generalize w8.drewN nq = w9 at *
    clear m1 ml gl pa pb t0 t1 tl v0 v1 vl CE
    go_wp2
    go_ret
    exact ⟨by rw [HE.out]; rfl, K2.out.both (K6.out.both K9.out)⟩
end Go.Proofs.YtnndmdfjdodiiaaGreat
