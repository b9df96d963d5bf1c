/- Package close: Classes, walked. -/
import Derived.Test.YtnndmdfjdodiiaaGreatTtKK
namespace Go.Proofs.YtnndmdfjdodiiaaGreat
open Go.ChangeShapes Go.WideShapes Go.RowKit Go.Maps
set_option linter.unusedVariables false
set_option linter.unusedSimpArgs false

/-- What a round of `for changed` begins with. -/
def ClsI (terms : List Cl.Tm) (pairs : List (Int × Int)) (gk : Nat) (ch : Bool) (c : List Int) : Prop :=
  if ch then Cl.classF terms pairs = Cl.loopF terms gk c ∧ Cl.sumZ c < (gk : Int) else Cl.classF terms pairs = c
theorem ClsI.next {terms : List Cl.Tm} {pairs : List (Int × Int)} {gk : Nat} {c c' : List Int} {ch' : Bool} (hok : Cl.ClOK terms.length c) (h : ClsI terms pairs gk true c) (hr : Cl.outL terms terms 0 (c, false) = (c', ch')) : ∃ g, g < gk ∧ ClsI terms pairs g ch' c' := by
  unfold ClsI at h
  rw [if_pos rfl] at h
  obtain ⟨h1, h2⟩ := h
  have h0 := (Cl.sumZ_rg hok.rg).1
  obtain ⟨g, rfl⟩ : ∃ g, gk = g + 1 := ⟨gk - 1, by omega⟩
  have hp := Cl.outL_told (terms := terms) terms 0 (c, false) (by omega) hok
  rw [hr] at hp
  unfold Cl.loopF at h1
  rw [hr] at h1
  refine ⟨g, Nat.lt_succ_self _, ?_⟩
  unfold ClsI
  cases ch'
  · rw [if_neg (by simp)]
    rw [if_neg (by simp)] at h1
    exact h1
  · rw [if_pos rfl]
    rw [if_pos rfl] at h1
    have := hp.lt rfl rfl
    simp only at this
    exact ⟨h1, by omega⟩
set_option maxRecDepth 100000 in
set_option maxHeartbeats 16000000 in
theorem classes_any (w : World) (ot op : Option Addr) (ct cp : Nat) (terms : List Cl.Tm) (pairs : List (Int × Int)) (ht : IsTerms w (.slice ot terms.length ct) terms) (hp : IsPairs w (.slice op pairs.length cp) pairs) (hok : TmOK terms) (hpk : PrOK terms.length pairs) (hpl : pairs.length ≤ 1000) :
    Calls Tryz.prog 20 #[.slice ot terms.length ct, .slice op pairs.length cp] w fun e w' => ∃ g, e = .returned (.slice (some ⟨g, 0, none⟩) terms.length terms.length) ∧ w'.heap[g]? = some (.cells (iv (Cl.classF terms pairs)).toArray TI (0, 0)) ∧ w.heap.size ≤ g ∧ Keep NoS w w' := by
  have HT := Lib.hid ht
  have HP := Lib.hid hp
  have HOK := Lib.hid hok
  have HPK := Lib.hid hpk
  have hn60 := hok.n
  have hct : terms.length ≤ ct := by obtain ⟨_, _, e, h, _⟩ := ht.len; cases e; exact h
  obtain ⟨n, hn⟩ : ∃ n, terms.length = n := ⟨_, rfl⟩
  obtain ⟨m, hm⟩ : ∃ m, pairs.length = m := ⟨_, rfl⟩
  have HN := Lib.hid hn
  have HM := Lib.hid hm
  rw [hn] at HT hn60 hct ⊢
  rw [hm] at HP hpl ⊢
  obtain ⟨w1, hr1, hg1, hk1⟩ := make_cells w n (by omega)
  have HG1 := Lib.hid hg1
  have K1 := Lib.hid hk1
  clear ht hp hok hpk hn hm hg1 hk1
  go_enter Tryz.func20, Tryz.ntmps20
  go_upto_region 2 with fail
  have HL2 : Hid (LCl w (w1.alloc (.cells #[.slice (some ⟨w.heap.size, 0, none⟩) n n] 22)) w1.heap.size w.heap.size n (fillL n 0)) := Lib.hid (by
    have ka : Keep NoS w1 (w1.alloc (.cells #[.slice (some ⟨w.heap.size, 0, none⟩) n n] 22)) := (Keep.refl _ _).alloc _
    exact ⟨K1.out.both ka, K1.out.size, Nat.le_refl _, heap_alloc_at _ _ _ rfl, by rw [fill_zero]; exact (ka.block _ (lt_of_heap HG1.out) fun _ h => h).trans HG1.out, fill_ok, by omega⟩)
  generalize w1.alloc (.cells #[.slice (some ⟨w.heap.size, 0, none⟩) n n] 22) = w2 at *
  generalize w1.heap.size = b at *
  have HGW : Hid (w.heap.size ≤ w.heap.size) := Lib.hid (Nat.le_refl _)
  generalize hgg : w.heap.size = g at HL2 HGW ⊢
  have HGG := Lib.hid hgg
  clear hgg hr1 HGW
  have x0 := cell_of_heap (o := 0) HL2.out.bb rfl
  have xl := lt_of_heap HL2.out.bb
  go_wp2
  go_loopw [20] (fun s wr => ∃ k : Nat, k ≤ n ∧ s = .int .i64 k ∧ LCl w wr b g n (fillL n k)) (fun s _ => (n - intOf s).toNat)
  case atStart => exact ⟨0, by omega, rfl, HL2.out⟩
  case round =>
  obtain ⟨k, hk, rfl, hl⟩ := hrel
  have HL := Lib.hid hl
  clear hl x0 xl
  have x0 := cell_of_heap (o := 0) HL.out.bb rfl
  have xl := lt_of_heap HL.out.bb
  have gl := lt_of_heap HL.out.gg
  by_cases hkl : k < n
  case pos =>
    have hlt : (k : Int) < (n : Int) := by omega
    obtain ⟨p0, f0⟩ := HL.out.cell (i := k) (by rw [HL.out.ok.len]; exact hkl)
    have HS : Hid (LCl w (wr.setCell ⟨g, k, none⟩ (.int .i64 (k : Int))) b g n (fillL n (k + 1))) := Lib.hid (by have := HL.out.set (i := k) (z := (k : Int)) (by omega); rwa [fill_set hkl] at this)
    go_wp2
    go_roundw
    case rel => exact ⟨k + 1, by omega, by go_num, HS.out⟩
    case measure => simp [intOf]; omega
  case neg =>
  have hlt : ¬ (k : Int) < (n : Int) := by omega
  obtain rfl : n = k := by omega
  have HL3 : Hid (LCl w wr b g n (Cl.startF n)) := Lib.hid (by rw [← fill_end]; exact HL.out)
  clear HL hk hkl HL2
  obtain ⟨w3, hw3⟩ : ∃ W : World, W = wr := ⟨_, rfl⟩
  subst hw3
  clear x0 xl gl
  go_wp2
  go_loopw [31] (fun s wr => ∃ k : Nat, k ≤ m ∧ s = .int .i64 k ∧ LCl w wr b g n (Cl.joinAll (Cl.startF n) (pairs.take k))) (fun s _ => (m - intOf s).toNat)
  case atStart => exact ⟨0, by omega, rfl, by simpa [Cl.joinAll] using HL3.out⟩
  case round =>
  obtain ⟨k, hk, rfl, hl⟩ := hrel
  have HL := Lib.hid hl
  clear hl
  by_cases hkl : k < m
  case pos =>
    have hlt : (k : Int) < (m : Int) := by omega
    have hkp : k < pairs.length := by rw [HM.out]; exact hkl
    obtain ⟨bp, fp, rfl, hbp, p0, p1⟩ := (HP.out.keep HL.out.k).at hkp
    have hq := HPK.out _ (List.getElem_mem hkp)
    rw [HN.out] at hq
    have HJ := Lib.hid (joinAll_take (c := Cl.startF n) hkp)
    generalize pairs[k] = pr at *
    obtain ⟨pa, pb⟩ := pr
    simp only at p0 p1 hq HJ
    obtain ⟨ia, rfl⟩ : ∃ i : Nat, pa = i := ⟨pa.toNat, by omega⟩
    obtain ⟨ib, rfl⟩ : ∃ i : Nat, pb = i := ⟨pb.toNat, by omega⟩
    have hia : ia < n := by omega
    have hib : ib < n := by omega
    have ka : Keep NoS wr (wr.alloc (.cells #[.int .i64 (ia : Int), .int .i64 (ib : Int)] 37)) := (Keep.refl _ _).alloc _
    have CJ := Lib.hid (cls1_any w _ b g n _ (HL.out.keep ka) ia ib hia hib)
    clear hq ka
    go_wp2_with fail
    refine CJ.out.mono ?_
    rintro e w5 ⟨rfl, hl5, _⟩
    have HL5 := Lib.hid hl5
    clear hl5 CJ
    go_wp2
    go_roundw
    case rel => exact ⟨k + 1, by omega, by go_num, by rw [HJ.out]; exact HL5.out⟩
    case measure => simp [intOf]; omega
  case neg =>
  have hlt : ¬ (k : Int) < (m : Int) := by omega
  have HL4 : Hid (LCl w wr b g n (Cl.joinAll (Cl.startF n) pairs)) := Lib.hid (by have := HL.out; rwa [List.take_of_length_le (by rw [HM.out]; omega)] at this)
  have HI : Hid (ClsI terms pairs (n * n + 1) true (Cl.joinAll (Cl.startF n) pairs)) := Lib.hid (by
    unfold ClsI
    rw [if_pos rfl]
    refine ⟨by unfold Cl.classF; rw [HN.out], ?_⟩
    have := (Cl.sumZ_rg HL4.out.ok.rg).2
    rw [HL4.out.ok.len] at this
    omega)
  clear HL hk hkl HL3
  go_wp2
  go_loopg [10] (n * n + 1) (fun gk s wr => ∃ ch c, s = .bool ch ∧ LCl w wr b g n c ∧ ClsI terms pairs gk ch c)
  case atStart => exact ⟨true, _, rfl, HL4.out, HI.out⟩
  case round =>
  obtain ⟨ch, c, rfl, hl, hi⟩ := hrel
  have HL := Lib.hid hl
  have HII := Lib.hid hi
  clear hl hi HL4 HI
  cases ch
  case false =>
    have HE : Hid (Cl.classF terms pairs = c) := Lib.hid (by have := HII.out; unfold ClsI at this; rwa [if_neg (by decide)] at this)
    have x0 := cell_of_heap (o := 0) HL.out.bb rfl
    have xl := lt_of_heap HL.out.bb
    go_wp2
    go_ret
    exact ⟨g, rfl, by rw [HE.out]; exact HL.out.gg, Nat.le_of_eq HGG.out, HL.out.k⟩
  case true =>
  go_wp2
  go_loopw [45, 10] (fun s t wr => ∃ (i : Nat) (c1 : List Int) (ch : Bool), i ≤ n ∧ s = .int .i64 i ∧ t = .bool ch ∧ LCl w wr b g n c1 ∧ Cl.outL terms terms 0 (c, false) = Cl.outL terms (terms.drop i) i (c1, ch)) (fun s _ _ => (n - intOf s).toNat)
  case atStart => exact ⟨0, c, false, by omega, rfl, rfl, HL.out, rfl⟩
  case round =>
  obtain ⟨i, c1, ch, hi, rfl, rfl, hl, ho⟩ := hrel
  have HL1 := Lib.hid hl
  have HO := Lib.hid ho
  clear hl ho
  by_cases hil : i < n
  case neg =>
    have hlt : ¬ (i : Int) < (n : Int) := by omega
    have HE : Hid (Cl.outL terms terms 0 (c, false) = (c1, ch)) := Lib.hid (HO.out.trans (by rw [List.drop_eq_nil_of_le (by rw [HN.out]; omega)]; rfl))
    obtain ⟨g2, hg2, hn2⟩ := ClsI.next (by rw [HN.out]; exact HL.out.ok) HII.out HE.out
    have HN2 := Lib.hid hn2
    clear hn2
    go_wp2
    go_roundg g2
    case measure => exact hg2
    case rel => exact ⟨ch, c1, rfl, HL1.out, HN2.out⟩
  case pos =>
  have hlt : (i : Int) < (n : Int) := by omega
  have hit : i < terms.length := by rw [HN.out]; exact hil
  obtain ⟨bt, ft, okk, ckk, rfl, hbt, p0, p1, hki, hkc, hkm⟩ := HT.out.at hit
  have p0 := (HL1.out.k.cell hbt).trans p0
  have p1 := (HL1.out.k.cell hbt).trans p1
  have hbt := Nat.lt_of_lt_of_le hbt HL1.out.k.size
  have HKW := Lib.hid hki
  have HKI := Lib.hid (hki.keep HL1.out.k)
  have HKO := Lib.hid (fun x hx => HOK.out.k _ (List.getElem_mem hit) x hx)
  have HOA := Lib.hid (HO.out.trans (outL_at hit))
  generalize terms[i] = t at *
  obtain ⟨th, tk⟩ := t
  simp only at p0 p1 hkc HKI HKO HKW
  have hic : i ≤ ct := by omega
  have hicI : (i : Int) ≤ (ct : Int) := by omega
  have ka : Keep NoS wr (wr.alloc (.cells #[.int .i64 th, .slice okk tk.length ckk] 30)) := (Keep.refl _ _).alloc _
  have HLA := Lib.hid (HL1.out.keep ka)
  have HBT : Hid ((wr.alloc (.cells #[.int .i64 th, .slice okk tk.length ckk] 30)).heap[wr.heap.size]? = some (.cells #[.int .i64 th, .slice okk tk.length ckk] 30 (0, 0))) := Lib.hid (heap_alloc_at _ _ _ rfl)
  have HKA := Lib.hid (HKI.out.keep ka)
  clear hki HO HKI ka
  go_upto_region 19 with fail
  generalize wr.alloc (.cells #[.int .i64 th, .slice okk tk.length ckk] 30) = w6 at *
  generalize wr.heap.size = b12 at *
  clear HL1 p0 p1 hbt
  have xt0 := cell_of_heap (o := 0) HBT.out rfl
  go_wp2
  clear xt0
  go_loopw [54, 10] (fun s u wr => ∃ (q : Nat) (c2 : List Int) (ch2 : Bool), q ≤ i ∧ s = .int .i64 q ∧ u = .bool ch2 ∧ LCl w wr b g n c2 ∧ wr.heap[b12]? = some (.cells #[.int .i64 th, .slice okk tk.length ckk] 30 (0, 0)) ∧ IsInts wr (.slice okk tk.length ckk) tk ∧ Cl.inL ⟨th, tk⟩ i (terms.take i) 0 (c1, ch) = Cl.inL ⟨th, tk⟩ i ((terms.take i).drop q) q (c2, ch2)) (fun s _ _ => (i - intOf s).toNat)
  case atStart => exact ⟨0, c1, ch, by omega, rfl, rfl, HLA.out, HBT.out, HKA.out, rfl⟩
  case round =>
  obtain ⟨q, c2, ch2, hq, rfl, rfl, hl, hbq, hkq, hin⟩ := hrel
  have HL2 := Lib.hid hl
  have HBQ := Lib.hid hbq
  have HKQ := Lib.hid hkq
  have HIN := Lib.hid hin
  clear hl hbq hkq hin
  by_cases hqi : q < i
  case neg =>
    have hlt : ¬ (q : Int) < (i : Int) := by omega
    have HE : Hid (Cl.inL ⟨th, tk⟩ i (terms.take i) 0 (c1, ch) = (c2, ch2)) := Lib.hid (HIN.out.trans (by rw [List.drop_eq_nil_of_le (by rw [List.length_take]; omega)]; rfl))
    go_wp2
    go_roundw
    case rel => exact ⟨i + 1, c2, ch2, by omega, by go_num, rfl, HL2.out, by rw [HOA.out, HE.out]⟩
    case measure => simp [intOf]; omega
  case pos =>
  have hlt : (q : Int) < (i : Int) := by omega
  have hqt : q < terms.length := by omega
  have hqu : q < (terms.take i).length := by rw [List.length_take]; omega
  obtain ⟨bt', ft', oku, cku, hv', hbt', u0, u1, hku, hkc2, _⟩ := (HT.out.keep HL2.out.k).at hqt
  cases hv'
  have HKU := Lib.hid hku
  have HUO := Lib.hid (fun x hx => HOK.out.k _ (List.getElem_mem hqt) x hx)
  have HST := Lib.hid (HIN.out.trans (inL_at hqu))
  have hte : (terms.take i)[q] = terms[q] := List.getElem_take ..
  rw [hte] at HST
  generalize terms[q] = u at *
  obtain ⟨uh, uk⟩ := u
  simp only at u0 u1 hkc2 HKU HUO
  have ka : Keep NoS wr (wr.alloc (.cells #[.int .i64 uh, .slice oku uk.length cku] 30)) := (Keep.refl _ _).alloc _
  have HLB := Lib.hid (HL2.out.keep ka)
  have HBU : Hid ((wr.alloc (.cells #[.int .i64 uh, .slice oku uk.length cku] 30)).heap[wr.heap.size]? = some (.cells #[.int .i64 uh, .slice oku uk.length cku] 30 (0, 0))) := Lib.hid (heap_alloc_at _ _ _ rfl)
  have HBQ := Lib.hid ((ka.block b12 (lt_of_heap HBQ.out) fun _ h => h).trans HBQ.out)
  have HKQ := Lib.hid (HKQ.out.keep ka)
  have HKU := Lib.hid (HKU.out.keep ka)
  clear hku hte HIN ka
  go_upto_region 22 with fail
  generalize wr.alloc (.cells #[.int .i64 uh, .slice oku uk.length cku] 30) = w8 at *
  generalize wr.heap.size = b14 at *
  clear HL2 u0 u1 hbt'
  have x0 := cell_of_heap (o := 0) HLB.out.bb rfl
  have xl := lt_of_heap HLB.out.bb
  have gl := lt_of_heap HLB.out.gg
  have pa := HLB.out.clAt hil
  have hqn : q < n := by omega
  have pb := HLB.out.clAt hqn
  have hqnI : (q : Int) < (n : Int) := by omega
  have t0 := cell_of_heap (o := 0) HBQ.out rfl
  have t1 := cell_of_heap (o := 1) HBQ.out rfl
  have tl := lt_of_heap HBQ.out
  have v0 := cell_of_heap (o := 0) HBU.out rfl
  have v1 := cell_of_heap (o := 1) HBU.out rfl
  have vl := lt_of_heap HBU.out
  have CJ := fun z => Lib.hid (cls1_any w (w8.drewN z) b g n _ (HLB.out.keep (Keep.drewN (Keep.refl _ _) _)) i q hil hqn)
  have CE := fun z => Lib.hid (eqFuncQ_any 45 #[.pointer (some ⟨b, 0, none⟩)] cfc2 (fun x y => decide (Cl.clAt c2 x = Cl.clAt c2 y)) (w8.drewN z) (.slice okk tk.length ckk) (.slice oku uk.length cku) tk uk (HKQ.out.keep (Keep.drewN (Keep.refl _ _) _)) (HKU.out.keep (Keep.drewN (Keep.refl _ _) _)) fun z' x hx y hy => by
    have h1 := HKO.out x hx
    have h2 := HUO.out y hy
    rw [HN.out] at h1 h2
    have h3 := cls2_any w ((w8.drewN z).drewN z') b g n _ (HLB.out.keep (by simpa using Keep.drewN (Keep.refl NoS w8) (z + z'))) x.toNat y.toNat (by omega) (by omega)
    rw [Int.toNat_of_nonneg h1.1, Int.toNat_of_nonneg h2.1] at h3
    refine h3.mono ?_
    rintro e w9 ⟨rfl, z2, rfl⟩
    exact ⟨rfl, z' + z2, by simp [Nat.add_assoc]⟩)
  have HIB : Hid (Cl.inB c2 ⟨th, tk⟩ ⟨uh, uk⟩ i q = (decide (Cl.clAt c2 i ≠ Cl.clAt c2 q) && (decide (th = uh) && Cl.kidsB c2 tk uk))) := Lib.hid rfl
  rw [kids_zip] at HIB
  simp only [] at HST
  generalize (decide (tk.length = uk.length) && (List.zip tk uk).all fun p => decide (Cl.clAt c2 p.1 = Cl.clAt c2 p.2)) = r at *
  generalize Cl.clAt c2 i = A at *
  generalize Cl.clAt c2 q = B at *
  by_cases hAB : A = B
  case pos =>
    have e1 : (A != B) = false := by rw [hAB]; simp
    have HNX : Hid (Cl.inL ⟨th, tk⟩ i (terms.take i) 0 (c1, ch) = Cl.inL ⟨th, tk⟩ i ((terms.take i).drop (q + 1)) (q + 1) (c2, ch2)) := Lib.hid (HST.out.trans (by rw [HIB.out, decide_eq_false (by simp [hAB]), Bool.false_and]; rfl))
    clear HST HIB CJ CE hAB
    go_quiet (fail)
    generalize hw9 : w8.drewN nq = w9
    have K9 : Hid (Keep NoS w8 w9) := Lib.hid (by rw [← hw9]; exact Keep.drewN (Keep.refl _ _) _)
    have HL9 := Lib.hid (HLB.out.keep K9.out)
    have HB9 := Lib.hid ((K9.out.block b12 tl fun _ h => h).trans HBQ.out)
    have HK9 := Lib.hid (HKQ.out.keep K9.out)
    clear hw9
    go_wp2
    go_roundw
    case rel => exact ⟨q + 1, c2, ch2, by omega, by go_num, rfl, HL9.out, HB9.out, HK9.out, HNX.out⟩
    case measure => simp [intOf]; omega
  case neg =>
  have e1 : (A != B) = true := by rw [bne_iff_ne]; exact hAB
  by_cases hh : th = uh
  case neg =>
    have e2 : (th == uh) = false := by rw [beq_eq_false_iff_ne]; exact hh
    have HNX : Hid (Cl.inL ⟨th, tk⟩ i (terms.take i) 0 (c1, ch) = Cl.inL ⟨th, tk⟩ i ((terms.take i).drop (q + 1)) (q + 1) (c2, ch2)) := Lib.hid (HST.out.trans (by rw [HIB.out, decide_eq_false hh, Bool.false_and, Bool.and_false]; rfl))
    clear HST HIB CJ CE hAB hh
    go_quiet (fail)
    generalize hw9 : w8.drewN nq = w9
    have K9 : Hid (Keep NoS w8 w9) := Lib.hid (by rw [← hw9]; exact Keep.drewN (Keep.refl _ _) _)
    have HL9 := Lib.hid (HLB.out.keep K9.out)
    have HB9 := Lib.hid ((K9.out.block b12 tl fun _ h => h).trans HBQ.out)
    have HK9 := Lib.hid (HKQ.out.keep K9.out)
    clear hw9
    go_wp2
    go_roundw
    case rel => exact ⟨q + 1, c2, ch2, by omega, by go_num, rfl, HL9.out, HB9.out, HK9.out, HNX.out⟩
    case measure => simp [intOf]; omega
  case pos =>
  have e2 : (th == uh) = true := by rw [beq_iff_eq]; exact hh
  cases r
  case false =>
    have HNX : Hid (Cl.inL ⟨th, tk⟩ i (terms.take i) 0 (c1, ch) = Cl.inL ⟨th, tk⟩ i ((terms.take i).drop (q + 1)) (q + 1) (c2, ch2)) := Lib.hid (HST.out.trans (by rw [HIB.out, Bool.and_false, Bool.and_false]; rfl))
    clear HST HIB CJ hAB hh
    go_quiet (exact (CE _).out.mono (by rintro e w9 ⟨rfl, z', rfl⟩; exact ⟨rfl, _, by rw [World.drewN_drewN]⟩))
    generalize hw9 : w8.drewN nq = w9
    have K9 : Hid (Keep NoS w8 w9) := Lib.hid (by rw [← hw9]; exact Keep.drewN (Keep.refl _ _) _)
    have HL9 := Lib.hid (HLB.out.keep K9.out)
    have HB9 := Lib.hid ((K9.out.block b12 tl fun _ h => h).trans HBQ.out)
    have HK9 := Lib.hid (HKQ.out.keep K9.out)
    clear hw9 CE
    go_wp2
    go_roundw
    case rel => exact ⟨q + 1, c2, ch2, by omega, by go_num, rfl, HL9.out, HB9.out, HK9.out, HNX.out⟩
    case measure => simp [intOf]; omega
  case true =>
    have HNX : Hid (Cl.inL ⟨th, tk⟩ i (terms.take i) 0 (c1, ch) = Cl.inL ⟨th, tk⟩ i ((terms.take i).drop (q + 1)) (q + 1) (Cl.joinF c2 i q, true)) := Lib.hid (HST.out.trans (by rw [HIB.out, decide_eq_true (show A ≠ B from hAB), decide_eq_true hh]; rfl))
    rw [decide_eq_true (show A ≠ B from hAB)] at CJ
    clear HST HIB hAB hh
    go_quiet (exact (CE _).out.mono (by rintro e w9 ⟨rfl, z', rfl⟩; exact ⟨rfl, _, by rw [World.drewN_drewN]⟩))
    have CJ := CJ nq
    generalize hw9 : w8.drewN nq = w9 at *
    have K9 : Hid (Keep NoS w8 w9) := Lib.hid (by rw [← hw9]; exact Keep.drewN (Keep.refl _ _) _)
    have HB9 := Lib.hid ((K9.out.block b12 tl fun _ h => h).trans HBQ.out)
    have HK9 := Lib.hid (HKQ.out.keep K9.out)
    have HL9 := Lib.hid (HLB.out.keep K9.out)
    clear hw9 CE
    go_wp2_with fail
    refine CJ.out.mono ?_
    rintro e w10 ⟨rfl, hl10, hf10⟩
    have HL10 := Lib.hid hl10
    have HBX : Hid (w10.heap[b12]? = some (.cells #[.int .i64 th, .slice okk tk.length ckk] 30 (0, 0))) := Lib.hid ((hf10.block b12 (lt_of_heap HB9.out) (by
      rintro rfl
      have := HL9.out.gg
      rw [HB9.out] at this
      injection this with this
      injection this with _ this
      exact absurd this (by decide))).trans HB9.out)
    have HKX : Hid (IsInts w10 (.slice okk tk.length ckk) tk) := Lib.hid (HKW.out.keep HL10.out.k)
    clear hl10 hf10 CJ
    go_wp2
    go_roundw
    case rel => exact ⟨q + 1, _, true, by omega, by go_num, rfl, HL10.out, HBX.out, HKX.out, HNX.out⟩
    case measure => simp [intOf]; omega
end Go.Proofs.YtnndmdfjdodiiaaGreat
