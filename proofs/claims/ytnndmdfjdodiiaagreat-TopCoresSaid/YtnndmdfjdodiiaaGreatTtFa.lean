/- Package form: the checks. -/
import Derived.Test.YtnndmdfjdodiiaaGreatTtY
import Derived.Test.YtnndmdfjdodiiaaGreatTtPP
namespace Go.Proofs.YtnndmdfjdodiiaaGreat
open Go.ChangeShapes Go.WideShapes Go.RowKit Go.Maps
set_option linter.unusedVariables false
set_option linter.unusedSimpArgs false

abbrev TAt : TypeId := 36
abbrev TFm : TypeId := 28
def atV (a : Sv.At) : Value := .agg #[.int .i64 a.kind, .int .i64 a.a, .int .i64 a.b, .slice none 0 0, .int .i64 0, .int .i64 0]
def atC (a : Sv.At) : List Value := [.int .i64 a.kind, .int .i64 a.a, .int .i64 a.b, .slice none 0 0, .int .i64 0, .int .i64 0]
theorem atC_len (a : Sv.At) : (atC a).length = 6 := rfl
/-- Atoms, as they lie: without rows. -/
def IsAtoms (w : World) (v : Value) (l : List Sv.At) : Prop :=
  ∃ oa cap, v = .slice oa l.length cap ∧ l.length ≤ cap ∧ cap ≤ maxLen ∧ (l ≠ [] → ∃ b o, oa = some ⟨b, o, none⟩ ∧ b < w.heap.size ∧ ∀ i a, l[i]? = some a → ∀ j u, (atC a)[j]? = some u → w.cell? ⟨b, o + i * 6 + j, none⟩ = some u)
theorem IsAtoms.len {w : World} {v : Value} {l : List Sv.At} (h : IsAtoms w v l) : ∃ oa cap, v = .slice oa l.length cap ∧ l.length ≤ cap ∧ cap ≤ maxLen := by
  obtain ⟨oa, cap, h1, h2, h3, _⟩ := h
  exact ⟨oa, cap, h1, h2, h3⟩
theorem IsAtoms.keep {w w' : World} {v : Value} {l : List Sv.At} (h : IsAtoms w v l) (k : Keep NoS w w') : IsAtoms w' v l := by
  obtain ⟨oa, cap, h1, h2, h3, h4⟩ := h
  refine ⟨oa, cap, h1, h2, h3, fun hne => ?_⟩
  obtain ⟨b, o, e, hb, hc⟩ := h4 hne
  exact ⟨b, o, e, Nat.lt_of_lt_of_le hb k.size, fun i a hi j u hj => (k.cell hb).trans (hc i a hi j u hj)⟩
theorem IsAtoms.at {w : World} {oa : Option Addr} {n cap : Nat} {l : List Sv.At} (h : IsAtoms w (.slice oa n cap) l) {k : Nat} (hk : k < l.length) :
    ∃ b o, oa = some ⟨b, o, none⟩ ∧ b < w.heap.size ∧ w.cell? ⟨b, o + k * 6, none⟩ = some (.int .i64 l[k].kind) ∧ w.cell? ⟨b, o + k * 6 + 1, none⟩ = some (.int .i64 l[k].a) ∧ w.cell? ⟨b, o + k * 6 + 2, none⟩ = some (.int .i64 l[k].b) ∧ w.cell? ⟨b, o + k * 6 + 3, none⟩ = some (.slice none 0 0) ∧ w.cell? ⟨b, o + k * 6 + 4, none⟩ = some (.int .i64 0) ∧ w.cell? ⟨b, o + k * 6 + 5, none⟩ = some (.int .i64 0) := by
  obtain ⟨oa', cap', hv, _, _, h4⟩ := h
  cases hv
  obtain ⟨b, o, e, hb, hc⟩ := h4 (by rintro rfl; simp at hk)
  have := hc k l[k] (by simp [hk])
  exact ⟨b, o, e, hb, this 0 _ rfl, this 1 _ rfl, this 2 _ rfl, this 3 _ rfl, this 4 _ rfl, this 5 _ rfl⟩
/-- A form, as its parts lie. -/
structure FmL where
  ot : Option Addr
  ct : Nat
  oa : Option Addr
  ca : Nat
  oc : Option Addr
  cc : Nat
def FmL.v (L : FmL) (f : Sv.Frm) : Value := .agg #[.slice L.ot f.terms.length L.ct, .slice none 0 0, .slice L.oa f.atoms.length L.ca, .slice L.oc f.cls.length L.cc]
structure IsForm (w : World) (L : FmL) (f : Sv.Frm) : Prop where
  t : IsTerms w (.slice L.ot f.terms.length L.ct) f.terms
  a : IsAtoms w (.slice L.oa f.atoms.length L.ca) f.atoms
  c : IsCls w (.slice L.oc f.cls.length L.cc) f.cls
theorem IsForm.keep {w w' : World} {L : FmL} {f : Sv.Frm} (h : IsForm w L f) (k : Keep NoS w w') : IsForm w' L f := ⟨h.t.keep k, h.a.keep k, h.c.keep k⟩
def AtOK (n : Nat) (a : Sv.At) : Prop := (a.kind = 1 ∧ a.a = 0 ∧ a.b = 0) ∨ (a.kind = 2 ∧ 0 ≤ a.a ∧ a.a < a.b ∧ a.b < (n : Int))
/-- Forms without numbers that are checked. -/
structure FmOK (f : Sv.Frm) : Prop where
  t : TmV f.terms
  n : f.atoms.length ≤ 20
  a : ∀ a ∈ f.atoms, AtOK f.terms.length a
  c : CnfOK f.atoms.length f.cls
theorem cft1 (a : Array Value) (w : World) : Sem.run Tryz.prog (callFunc 78 a) w = .ok (.enter 78 a) w := by kernel_rfl
theorem fct1_any (w : World) (b i k : Nat) (hb : w.cell? ⟨b, 0, none⟩ = some (.int .i64 (i : Int))) (hl : b < w.heap.size) (hk : k < i) :
    Calls Tryz.prog 78 #[.int .i64 (k : Int), .pointer (some ⟨b, 0, none⟩)] w fun e w' => e = .returned (.bool false) ∧ Keep NoS w w' := by
  have h1 : ¬ (k : Int) < 0 := by omega
  have h2 : ¬ (i : Int) ≤ (k : Int) := by omega
  go_enter Tryz.func78, Tryz.ntmps78
  go_wp2
  go_ret
  exact ⟨rfl, by (repeat' (with_reducible first | assumption | exact HK.out | exact keR | refine keA ?_ | refine keS ?_ fun h => absurd h (by omega) | refine keN ?_ | refine keD ?_))⟩
set_option maxRecDepth 100000 in
set_option maxHeartbeats 16000000 in
theorem fct_any (w : World) (ot : Option Addr) (ct : Nat) (terms : List Cl.Tm) (i : Nat) (ht : IsTerms w (.slice ot terms.length ct) terms) (hv : TmV terms) (hi : i < terms.length) :
    Calls Tryz.prog 47 #[.slice ot terms.length ct, .int .i64 (i : Int)] w fun e w' => e = .returned (.int .i64 0) ∧ Keep NoS w w' := by
  obtain ⟨bt, ft, okk, ckk, rfl, hbt, p0, p1, hki, hkc, hkm⟩ := ht.at hi
  obtain ⟨v1, v2, v3, v4⟩ := hv.t i hi
  have HKI := Lib.hid hki
  have hiI : (i : Int) < (terms.length : Int) := by omega
  generalize terms[i] = t at *
  generalize terms.length = n at *
  obtain ⟨th, tk⟩ := t
  simp only at p0 p1 v1 v2 v3 v4 HKI
  have HV4 := Lib.hid v4
  have e1 : ¬ (8 : Int) < (tk.length : Int) := by omega
  have e2 : ¬ th < 0 := by omega
  have e3 : ¬ (1000000 : Int) < th := by omega
  have ka : Keep NoS w ((w.alloc (.cells #[.int .i64 (i : Int)] TI)).alloc (.cells #[.int .i64 th, .slice okk tk.length ckk] 30)) := ((Keep.refl _ _).alloc _).alloc _
  have hB : ((w.alloc (.cells #[.int .i64 (i : Int)] TI)).alloc (.cells #[.int .i64 th, .slice okk tk.length ckk] 30)).heap[w.heap.size]? = some (.cells #[.int .i64 (i : Int)] TI (0, 0)) := by rw [heap_alloc_old _ _ _ (by simp)]; exact heap_alloc_at _ _ _ rfl
  have m0 := cell_of_heap (o := 0) hB rfl
  have ml := lt_of_heap hB
  have CC := Lib.hid (intAny_any 78 #[.pointer (some ⟨w.heap.size, 0, none⟩)] cft1 (fun _ => false) _ (.slice okk tk.length ckk) tk (HKI.out.keep ka) fun w' kk x hx => by
    have := HV4.out x hx
    have h3 := fct1_any w' w.heap.size i x.toNat ((kk.cell ml).trans m0) (Nat.lt_of_lt_of_le ml kk.size) (by omega)
    rwa [Int.toNat_of_nonneg this.1] at h3)
  have hany : (tk.any fun _ => false) = false := by simp
  rw [hany] at CC
  have K3 := Lib.hid ka
  clear hki v4 hB m0 ml ka hany ht hv
  go_enter Tryz.func47, Tryz.ntmps47
  go_wp2_with fail
  refine CC.out.mono ?_
  rintro e w5 ⟨rfl, hk5⟩
  have K5 := Lib.hid (K3.out.both hk5)
  clear hk5 CC
  go_wp2
  go_ret
  exact ⟨rfl, K5.out⟩

set_option maxRecDepth 100000 in
set_option maxHeartbeats 16000000 in
theorem fca_any (w : World) (L : FmL) (f : Sv.Frm) (a : Sv.At) (ha : AtOK f.terms.length a) :
    Calls Tryz.prog 48 #[L.v f, atV a] w fun e w' => e = .returned (.int .i64 0) ∧ Keep NoS w w' := by
  unfold FmL.v atV
  obtain ⟨k, x, y⟩ := a
  obtain ⟨ot, ct, oa, ca, oc, cc⟩ := L
  simp only
  generalize f.terms.length = n at *
  generalize f.atoms.length = m at *
  generalize f.cls.length = q at *
  have KA : Hid (Keep NoS w ((w.alloc (.cells #[.slice ot n ct, .slice none 0 0, .slice oa m ca, .slice oc q cc] TFm)).alloc (.cells #[.int .i64 k, .int .i64 x, .int .i64 y, .slice none 0 0, .int .i64 0, .int .i64 0] TAt))) := Lib.hid (((Keep.refl _ _).alloc _).alloc _)
  rcases ha with ⟨h1, h2, h3⟩ | ⟨h1, h2, h3, h4⟩
  · simp only at h1 h2 h3
    subst h1 h2 h3
    go_enter Tryz.func48, Tryz.ntmps48
    go_wp2
    go_ret
    exact ⟨rfl, KA.out⟩
  · simp only at h1 h2 h3 h4
    subst h1
    have e1 : ¬ x < 0 := by omega
    have e2 : ¬ y ≤ x := by omega
    have e3 : ¬ (n : Int) ≤ y := by omega
    by_cases hx : x = 0
    · subst hx
      have e4 : (y != 0) = true := by rw [bne_iff_ne]; omega
      go_enter Tryz.func48, Tryz.ntmps48
      go_wp2
      go_ret
      exact ⟨rfl, KA.out⟩
    · have e4 : (x != 0) = true := by rw [bne_iff_ne]; exact hx
      go_enter Tryz.func48, Tryz.ntmps48
      go_wp2
      go_ret
      exact ⟨rfl, KA.out⟩
set_option maxRecDepth 100000 in
set_option maxHeartbeats 16000000 in
theorem fcheck_any (w : World) (L : FmL) (f : Sv.Frm) (h : IsForm w L f) (hok : FmOK f) :
    Calls Tryz.prog 22 #[L.v f] w fun e w' => e = .returned (.agg #[.int .i64 0, .int .i64 0]) ∧ Keep NoS w w' := by
  have HA := Lib.hid h.a
  have HAO := Lib.hid hok.a
  have CT := Lib.hid (fun w' (k : Keep NoS w w') i (hi : i < f.terms.length) => fct_any w' L.ot L.ct f.terms i (h.t.keep k) hok.t hi)
  have CA := Lib.hid (fun w' a (ha : AtOK f.terms.length a) => fca_any w' L f a ha)
  have CC := Lib.hid (fun w' (k : Keep NoS w w') => check_any f.atoms.length w' L.oc L.cc f.cls (h.c.keep k) hok.c)
  have hn := hok.t.n
  have hm := hok.n
  unfold FmL.v at CA ⊢
  obtain ⟨ot, ct, oa, ca, oc, cc⟩ := L
  simp only at CA CT CC HA ⊢
  obtain ⟨n, hn'⟩ : ∃ n, f.terms.length = n := ⟨_, rfl⟩
  obtain ⟨m, hm'⟩ : ∃ m, f.atoms.length = m := ⟨_, rfl⟩
  have HN := Lib.hid hn'
  have HM := Lib.hid hm'
  rw [hn'] at CT CA HAO hn ⊢
  rw [hm'] at CA CC HA hm ⊢
  generalize f.cls.length = q at *
  clear h hok hn' hm'
  have e1 : ¬ (60 : Int) < (n : Int) := by omega
  have e2 : ¬ (120 : Int) < (m : Int) := by omega
  obtain ⟨w2, hw2⟩ : ∃ w2 : World, w2 = (w.alloc (.cells #[.slice ot n ct, .slice none 0 0, .slice oa m ca, .slice oc q cc] TFm)).alloc (.cells #[.int .i64 0, .int .i64 0] TFa) := ⟨_, rfl⟩
  obtain ⟨b2, hb2⟩ : ∃ b2, b2 = w.heap.size + 1 := ⟨_, rfl⟩
  have K2 : Hid (Keep NoS w w2) := Lib.hid (by rw [hw2]; exact ((Keep.refl _ _).alloc _).alloc _)
  have HB1 : Hid (w2.heap[w.heap.size]? = some (.cells #[.slice ot n ct, .slice none 0 0, .slice oa m ca, .slice oc q cc] TFm (0, 0))) := Lib.hid (by rw [hw2, heap_alloc_old _ _ _ (by simp)]; exact heap_alloc_at _ _ _ rfl)
  have HB2 : Hid (w2.heap[b2]? = some (.cells #[.int .i64 0, .int .i64 0] TFa (0, 0))) := Lib.hid (by rw [hw2, hb2]; exact heap_alloc_at _ _ _ (by simp))
  go_enter Tryz.func22, Tryz.ntmps22
  go_upto_region 1 with fail
  rw [← hw2, ← hb2]
  have HLW : Hid (w.heap.size ≤ b2) := Lib.hid (by omega)
  clear hw2 hb2
  generalize hg1 : w.heap.size = b1 at *
  have HG1 := Lib.hid hg1
  clear hg1
  have x0 := cell_of_heap (o := 0) HB1.out rfl
  have x1 := cell_of_heap (o := 1) HB1.out rfl
  have x2 := cell_of_heap (o := 2) HB1.out rfl
  have x3 := cell_of_heap (o := 3) HB1.out rfl
  have xl := lt_of_heap HB1.out
  have yl := lt_of_heap HB2.out
  go_wp2
  go_loopw [16] (fun s wr => ∃ k : Nat, k ≤ n ∧ s = .int .i64 k ∧ Keep NoS w2 wr) (fun s _ => (n - intOf s).toNat)
  case atStart => exact ⟨0, by omega, rfl, by (repeat' (with_reducible first | assumption | exact HK.out | exact keR | refine keA ?_ | refine keS ?_ fun h => absurd h (by omega) | refine keN ?_ | refine keD ?_))⟩
  case round =>
  obtain ⟨k, hk, rfl, hkr⟩ := hrel
  have KR := Lib.hid hkr
  have z0 := (hkr.cell (i := 0) xl).trans x0
  have z1 := (hkr.cell (i := 1) xl).trans x1
  have z2 := (hkr.cell (i := 2) xl).trans x2
  have zl := Nat.lt_of_lt_of_le xl hkr.size
  clear hkr
  by_cases hkl : k < n
  case pos =>
    have hlt : (k : Int) < (n : Int) := by omega
    have CT := Lib.hid (CT.out wr (K2.out.both KR.out) k hkl)
    clear z1 z2
    go_wp2_with fail
    refine CT.out.mono ?_
    rintro e w3 ⟨rfl, hk3⟩
    have K3 := Lib.hid (KR.out.both hk3)
    clear hk3 CT
    go_wp2
    go_roundw
    case rel => exact ⟨k + 1, by omega, by go_num, K3.out⟩
    case measure => simp [intOf]; omega
  case neg =>
  have hlt : ¬ (k : Int) < (n : Int) := by omega
  obtain ⟨w3, hw3⟩ : ∃ W : World, W = wr := ⟨_, rfl⟩
  subst hw3
  clear hk hkl
  go_wp2
  clear z1
  go_loopw [43] (fun s wr => ∃ j : Nat, j ≤ m ∧ s = .int .i64 j ∧ Keep NoS w2 wr) (fun s _ => (m - intOf s).toNat)
  case atStart => exact ⟨0, by omega, rfl, KR.out⟩
  case round =>
  obtain ⟨j, hj, rfl, hkr⟩ := hrel
  have KJ := Lib.hid hkr
  clear hkr
  have y0 := (KJ.out.cell (i := 0) xl).trans x0
  have y1 := (KJ.out.cell (i := 1) xl).trans x1
  have y2 := (KJ.out.cell (i := 2) xl).trans x2
  have y3 := (KJ.out.cell (i := 3) xl).trans x3
  have yl0 := Nat.lt_of_lt_of_le xl KJ.out.size
  by_cases hjl : j < m
  case pos =>
    have hlt : (j : Int) < (m : Int) := by omega
    have hjm : j < f.atoms.length := by rw [HM.out]; exact hjl
    obtain ⟨ba, fa, rfl, hba, p0, p1, p2, p3, p4, p5⟩ := (HA.out.keep (K2.out.both KJ.out)).at hjm
    have ho := HAO.out _ (List.getElem_mem hjm)
    generalize f.atoms[j] = a at *
    have K3 : Hid (Keep NoS w2 (wr.alloc (.cells #[.int .i64 a.kind, .int .i64 a.a, .int .i64 a.b, .slice none 0 0, .int .i64 0, .int .i64 0] TAt))) := Lib.hid (KJ.out.both ((Keep.refl _ _).alloc _))
    have CA := fun w' => Lib.hid (CA.out w' a ho)
    unfold atV at CA
    clear ho
    go_wp2_with fail
    refine (CA _).out.mono ?_
    rintro e w4 ⟨rfl, hk4⟩
    have K4 := Lib.hid (K3.out.both hk4)
    clear hk4 CA
    go_wp2
    go_roundw
    case rel => exact ⟨j + 1, by omega, by go_num, K4.out⟩
    case measure => simp [intOf]; omega
  case neg =>
  have hlt : ¬ (j : Int) < (m : Int) := by omega
  have CC := Lib.hid (CC.out wr (K2.out.both KJ.out))
  clear y0 y1
  go_wp2_with fail
  refine CC.out.mono ?_
  rintro e w4 ⟨rfl, hk4⟩
  have KE := Lib.hid (KJ.out.both hk4)
  have HB2e := Lib.hid ((KE.out.block b2 yl fun _ h => h).trans HB2.out)
  have u0 := cell_of_heap (o := 0) HB2e.out rfl
  have u1 := cell_of_heap (o := 1) HB2e.out rfl
  have f0 := Blk.free (A := _) ⟨_, HB2e.out⟩ 0
  have f1 := Blk.free (A := _) ⟨_, HB2e.out⟩ 1
  have ul := lt_of_heap HB2e.out
  clear hk4 CC y2 y3 yl0
  go_wp2
  refine bodyPost_ret (by simp [results, Tryz.results22, go_sem, u0, u1, ul]; rfl) rfl ?_
  exact ⟨rfl, keep_at (keep_at (K2.out.both KE.out) _ (by rw [HG1.out]; exact HLW.out)) _ (by rw [HG1.out]; exact HLW.out)⟩
end Go.Proofs.YtnndmdfjdodiiaaGreat
