/- Package close: check. -/
import Derived.Test.YtnndmdfjdodiiaaGreatTtW
namespace Go.Proofs.YtnndmdfjdodiiaaGreat
open Go.ChangeShapes Go.WideShapes Go.RowKit Go.Maps
set_option linter.unusedVariables false
set_option linter.unusedSimpArgs false

/-- Terms that are checked. -/
structure TmV (terms : List Cl.Tm) : Prop where
  n : terms.length ≤ 60
  t : ∀ i (h : i < terms.length), 0 ≤ terms[i].head ∧ terms[i].head ≤ 1000000 ∧ terms[i].kids.length ≤ 8 ∧ ∀ x ∈ terms[i].kids, 0 ≤ x ∧ x < (i : Int)
theorem TmV.ok {terms : List Cl.Tm} (h : TmV terms) : TmOK terms := ⟨h.n, fun t ht x hx => by
  obtain ⟨i, hi, rfl⟩ := List.getElem_of_mem ht
  have := (h.t i hi).2.2.2 x hx
  omega⟩
theorem term_any (w : World) (ot : Option Addr) (n ct a : Nat) (ha : a < n) :
    Calls Tryz.prog 42 #[.slice ot n ct, .int .i64 (a : Int)] w fun e w' => e = .returned (.bool true) ∧ w' = w := by
  have h1 : (a : Int) < (n : Int) := by omega
  have h2 : (0 : Int) ≤ (a : Int) := by omega
  go_enter Tryz.func42, Tryz.ntmps42
  go_wp2
  go_ret
  exact ⟨rfl, rfl⟩
theorem cck1 (a : Array Value) (w : World) : Sem.run Tryz.prog (callFunc 41 a) w = .ok (.enter 41 a) w := by kernel_rfl
theorem check1_any (w : World) (b i k : Nat) (hb : w.cell? ⟨b, 0, none⟩ = some (.int .i64 (i : Int))) (hl : b < w.heap.size) (hk : k < i) :
    Calls Tryz.prog 41 #[.int .i64 (k : Int), .pointer (some ⟨b, 0, none⟩)] w fun e w' => e = .returned (.bool false) ∧ Keep NoS w w' := by
  have h1 : ¬ (k : Int) < 0 := by omega
  have h2 : ¬ (i : Int) ≤ (k : Int) := by omega
  go_enter Tryz.func41, Tryz.ntmps41
  go_wp2
  go_ret
  exact ⟨rfl, by (repeat' (with_reducible first | assumption | exact HK.out | exact keR | refine keA ?_ | refine keS ?_ fun h => absurd h (by omega) | refine keN ?_ | refine keD ?_))⟩
set_option maxRecDepth 100000 in
set_option maxHeartbeats 16000000 in
theorem ccheck_any (w : World) (ot : Option Addr) (ct : Nat) (terms : List Cl.Tm) (ht : IsTerms w (.slice ot terms.length ct) terms) (hv : TmV terms) (bl nl cl : Nat) (hbl : bl < w.heap.size) (hnl : nl ≤ 2)
    (sv : Nat → Value) (ls : Nat → List (Int × Int)) (hs : ∀ j, j < nl → w.cell? ⟨bl, j, none⟩ = some (sv j) ∧ IsPairs w (sv j) (ls j) ∧ (ls j).length ≤ 120 ∧ PrOK terms.length (ls j)) :
    Calls Tryz.prog 19 #[.slice ot terms.length ct, .slice (some ⟨bl, 0, none⟩) nl cl] w fun e w' => e = .returned (.agg #[.int .i64 0, .int .i64 0]) ∧ Keep NoS w w' := by
  have HT := Lib.hid ht
  have HV := Lib.hid hv
  have HS := Lib.hid hs
  have hn := hv.n
  obtain ⟨n, hn'⟩ : ∃ n, terms.length = n := ⟨_, rfl⟩
  have HN := Lib.hid hn'
  rw [hn'] at HT hn HS ⊢
  clear ht hv hs hn'
  have h60 : ¬ (60 : Int) < (n : Int) := by omega
  have KA : Hid (Keep NoS w (w.alloc (.cells #[.int .i64 0, .int .i64 0] TFa))) := Lib.hid ((Keep.refl _ _).alloc _)
  have HB2 : Hid ((w.alloc (.cells #[.int .i64 0, .int .i64 0] TFa)).heap[w.heap.size]? = some (.cells #[.int .i64 0, .int .i64 0] TFa (0, 0))) := Lib.hid (heap_alloc_at _ _ _ rfl)
  obtain ⟨w2, hw2⟩ : ∃ w2 : World, w2 = w.alloc (.cells #[.int .i64 0, .int .i64 0] TFa) := ⟨_, rfl⟩
  rw [← hw2] at KA HB2
  go_enter Tryz.func19, Tryz.ntmps19
  go_upto_region 1 with fail
  rw [← hw2]
  clear hw2
  obtain ⟨b2, hb2⟩ : ∃ b2, b2 = w.heap.size := ⟨_, rfl⟩
  rw [← hb2] at HB2 ⊢
  have HL := Lib.hid (Nat.le_of_eq hb2.symm)
  clear hb2
  go_wp2
  go_loopw [18] (fun s wr => ∃ k : Nat, k ≤ n ∧ s = .int .i64 k ∧ Keep NoS w2 wr) (fun s _ => (n - intOf s).toNat)
  case atStart => exact ⟨0, by omega, rfl, by (repeat' (with_reducible first | assumption | exact HK.out | exact keR | refine keA ?_ | refine keS ?_ fun h => absurd h (by omega) | refine keN ?_ | refine keD ?_))⟩
  case round =>
  obtain ⟨k, hk, rfl, hkr⟩ := hrel
  have KR := Lib.hid hkr
  clear hkr
  by_cases hkl : k < n
  case pos =>
    have hlt : (k : Int) < (n : Int) := by omega
    have hkt : k < terms.length := by rw [HN.out]; exact hkl
    obtain ⟨bt, ft, okk, ckk, rfl, hbt, p0, p1, hki, hkc, hkm⟩ := (HT.out.keep (KA.out.both KR.out)).at hkt
    have hvt := HV.out.t k hkt
    have HKI := Lib.hid hki
    generalize terms[k] = t at *
    obtain ⟨th, tk⟩ := t
    simp only at p0 p1 hvt HKI
    obtain ⟨v1, _, v3, v4⟩ := hvt
    have HV4 := Lib.hid v4
    have e1 : ¬ (8 : Int) < (tk.length : Int) := by omega
    have e2 : ¬ th < 0 := by omega
    have ka : Keep NoS wr ((wr.alloc (.cells #[.int .i64 (k : Int)] TI)).alloc (.cells #[.int .i64 th, .slice okk tk.length ckk] 30)) := ((Keep.refl _ _).alloc _).alloc _
    have hB : ((wr.alloc (.cells #[.int .i64 (k : Int)] TI)).alloc (.cells #[.int .i64 th, .slice okk tk.length ckk] 30)).heap[wr.heap.size]? = some (.cells #[.int .i64 (k : Int)] TI (0, 0)) := by rw [heap_alloc_old _ _ _ (by simp)]; exact heap_alloc_at _ _ _ rfl
    have m0 := cell_of_heap (o := 0) hB rfl
    have ml := lt_of_heap hB
    have CC := Lib.hid (intAny_any 41 #[.pointer (some ⟨wr.heap.size, 0, none⟩)] cck1 (fun _ => false) _ (.slice okk tk.length ckk) tk (HKI.out.keep ka) fun w' kk x hx => by
      have := HV4.out x hx
      have h3 := check1_any w' wr.heap.size k x.toNat ((kk.cell ml).trans m0) (Nat.lt_of_lt_of_le ml kk.size) (by omega)
      rwa [Int.toNat_of_nonneg this.1] at h3)
    have hany : (tk.any fun _ => false) = false := by simp
    rw [hany] at CC
    have K3 := Lib.hid (KR.out.both ka)
    clear hki v4 hB m0 ml ka hany
    go_wp2_with fail
    refine CC.out.mono ?_
    rintro e w5 ⟨rfl, hk5⟩
    have K5 := Lib.hid (K3.out.both hk5)
    clear hk5 CC
    go_wp2
    go_roundw
    case rel => exact ⟨k + 1, by omega, by go_num, K5.out⟩
    case measure => simp [intOf]; omega
  case neg =>
  have hlt : ¬ (k : Int) < (n : Int) := by omega
  clear hk hkl
  go_wp2
  go_loopw [45, 7] (fun s u wr => ∃ (j : Nat) (z : Int), j ≤ nl ∧ s = .int .i64 j ∧ u = .int .i64 z ∧ 0 ≤ z ∧ z ≤ 200 * (j : Int) ∧ Keep NoS w2 wr) (fun s _ _ => (nl - intOf s).toNat)
  case atStart => exact ⟨0, 0, by omega, rfl, rfl, by omega, by omega, KR.out⟩
  case round =>
  obtain ⟨j, z, hj, rfl, rfl, hz0, hz1, hkr⟩ := hrel
  have KR2 := Lib.hid hkr
  clear hkr KR
  by_cases hjl : j < nl
  case neg =>
    have hlt : ¬ (j : Int) < (nl : Int) := by omega
    have HB3 := Lib.hid ((KR2.out.block b2 (lt_of_heap HB2.out) fun _ h => h).trans HB2.out)
    have u0 := cell_of_heap (o := 0) HB3.out rfl
    have u1 := cell_of_heap (o := 1) HB3.out rfl
    have f0 := Blk.free (A := _) ⟨_, HB3.out⟩ 0
    have f1 := Blk.free (A := _) ⟨_, HB3.out⟩ 1
    have ul := lt_of_heap HB3.out
    go_wp2
    refine bodyPost_ret (by simp [results, Tryz.results19, go_sem, u0, u1, ul]; rfl) rfl ?_
    exact ⟨rfl, keep_at (keep_at (KA.out.both KR2.out) _ HL.out) _ HL.out⟩
  case pos =>
  have hlt : (j : Int) < (nl : Int) := by omega
  obtain ⟨c0, hpj, hlj, hoj⟩ := HS.out j hjl
  have HPJ := Lib.hid hpj
  obtain ⟨op, cp, hsv, _⟩ := hpj.len
  rw [hsv] at c0 HPJ
  have c0 := ((KA.out.both KR2.out).cell hbl).trans c0
  have cl0 := Nat.lt_of_lt_of_le hbl (KA.out.both KR2.out).size
  have HOJ := Lib.hid hoj
  generalize ls j = l at *
  obtain ⟨m, hm⟩ : ∃ m, l.length = m := ⟨_, rfl⟩
  have HM := Lib.hid hm
  rw [hm] at HPJ c0 hlj
  have e1 : ¬ (120 : Int) < (m : Int) := by omega
  clear hpj hsv hoj hm
  go_wp2
  go_loopw [55, 7] (fun s u wr => ∃ (q : Nat) (y : Int), q ≤ m ∧ s = .int .i64 q ∧ u = .int .i64 y ∧ 0 ≤ y ∧ y ≤ z + (q : Int) ∧ Keep NoS w2 wr) (fun s _ _ => (m - intOf s).toNat)
  case atStart => exact ⟨0, z, by omega, rfl, rfl, hz0, by omega, KR2.out⟩
  case round =>
  obtain ⟨q, y, hq, rfl, rfl, hy0, hy1, hkr⟩ := hrel
  have KR3 := Lib.hid hkr
  clear hkr
  by_cases hql : q < m
  case neg =>
    have hlt : ¬ (q : Int) < (m : Int) := by omega
    go_wp2
    go_roundw
    case rel => exact ⟨j + 1, y, by omega, by go_num, rfl, hy0, by omega, KR3.out⟩
    case measure => simp [intOf]; omega
  case pos =>
  have hlt : (q : Int) < (m : Int) := by omega
  have hqm : q < l.length := by rw [HM.out]; exact hql
  obtain ⟨bp, fp, rfl, hbp, p0, p1⟩ := (HPJ.out.keep (KA.out.both KR3.out)).at hqm
  have ho := HOJ.out _ (List.getElem_mem hqm)
  generalize l[q] = pr at *
  obtain ⟨pa, pb⟩ := pr
  simp only at p0 p1 ho
  obtain ⟨ia, rfl⟩ : ∃ i : Nat, pa = i := ⟨pa.toNat, by omega⟩
  obtain ⟨ib, rfl⟩ : ∃ i : Nat, pb = i := ⟨pb.toNat, by omega⟩
  have C1 := fun w' => Lib.hid (term_any w' ot n ct ia (by omega))
  have C2 := fun w' => Lib.hid (term_any w' ot n ct ib (by omega))
  have K3 : Hid (Keep NoS w2 (wr.alloc (.cells #[.int .i64 (ia : Int), .int .i64 (ib : Int)] 37))) := Lib.hid (KR3.out.both ((Keep.refl _ _).alloc _))
  clear ho
  go_wp2_with fail
  refine (C1 _).out.mono ?_
  rintro e w5 ⟨rfl, rfl⟩
  go_wp2_with fail
  refine (C2 _).out.mono ?_
  rintro e w5 ⟨rfl, rfl⟩
  go_wp2
  go_roundw
  case rel => exact ⟨q + 1, y + 1, by omega, by go_num, by go_num, by omega, by omega, K3.out⟩
  case measure => simp [intOf]; omega
end Go.Proofs.YtnndmdfjdodiiaaGreat
