/- Package judge: Why. -/
import Derived.Test.YtnndmdfjdodiiaaGreatTtJg
namespace Go.Proofs.YtnndmdfjdodiiaaGreat
open Go.ChangeShapes Go.WideShapes Go.RowKit Go.Maps
set_option linter.unusedVariables false
set_option linter.unusedSimpArgs false

/-- Steps, as they lie. -/
def IsSteps (w : World) (v : Value) (l : List Sv.Stp) : Prop :=
  ∃ oa cap, v = .slice oa l.length cap ∧ l.length ≤ cap ∧ cap ≤ maxLen ∧ (l ≠ [] → ∃ b o, oa = some ⟨b, o, none⟩ ∧ b < w.heap.size ∧ ∀ (i : Nat) (x : Sv.Stp), l[i]? = some x → ∃ ol cl, IsInts w (.slice ol x.lits.length cl) x.lits ∧ x.lits.length ≤ cl ∧ cl ≤ maxLen ∧ ∀ (j : Nat) (u : Value), (stC x.kind ol x.lits.length cl)[j]? = some u → w.cell? ⟨b, o + i * 9 + j, none⟩ = some u)
theorem IsSteps.len {w : World} {v : Value} {l : List Sv.Stp} (h : IsSteps w v l) : ∃ oa cap, v = .slice oa l.length cap ∧ l.length ≤ cap ∧ cap ≤ maxLen := by
  obtain ⟨oa, cap, h1, h2, h3, _⟩ := h
  exact ⟨oa, cap, h1, h2, h3⟩
theorem IsSteps.keep {w w' : World} {v : Value} {l : List Sv.Stp} (h : IsSteps w v l) (k : Keep NoS w w') : IsSteps w' v l := by
  obtain ⟨oa, cap, h1, h2, h3, h4⟩ := h
  refine ⟨oa, cap, h1, h2, h3, fun hne => ?_⟩
  obtain ⟨b, o, e, hb, hc⟩ := h4 hne
  refine ⟨b, o, e, Nat.lt_of_lt_of_le hb k.size, fun i x hi => ?_⟩
  obtain ⟨ol, cl, p, q, r, s⟩ := hc i x hi
  exact ⟨ol, cl, p.keep k, q, r, fun j u hj => (k.cell hb).trans (s j u hj)⟩
theorem IsSteps.at {w : World} {oa : Option Addr} {n cap : Nat} {l : List Sv.Stp} (h : IsSteps w (.slice oa n cap) l) {k : Nat} (hk : k < l.length) :
    ∃ b o ol cl, oa = some ⟨b, o, none⟩ ∧ b < w.heap.size ∧ IsInts w (.slice ol l[k].lits.length cl) l[k].lits ∧ l[k].lits.length ≤ cl ∧ cl ≤ maxLen ∧ w.cell? ⟨b, o + k * 9, none⟩ = some (.int .i64 l[k].kind) ∧ w.cell? ⟨b, o + k * 9 + 1, none⟩ = some (.slice ol l[k].lits.length cl) ∧ w.cell? ⟨b, o + k * 9 + 2, none⟩ = some (.slice none 0 0) ∧ w.cell? ⟨b, o + k * 9 + 3, none⟩ = some (.int .i64 0) ∧ w.cell? ⟨b, o + k * 9 + 4, none⟩ = some (.int .i64 0) ∧ w.cell? ⟨b, o + k * 9 + 5, none⟩ = some (.int .i64 0) ∧ w.cell? ⟨b, o + k * 9 + 6, none⟩ = some (.slice none 0 0) ∧ w.cell? ⟨b, o + k * 9 + 7, none⟩ = some (.int .i64 0) ∧ w.cell? ⟨b, o + k * 9 + 8, none⟩ = some (.int .i64 0) := by
  obtain ⟨oa', cap', hv, _, _, h4⟩ := h
  cases hv
  obtain ⟨b, o, e, hb, hc⟩ := h4 (by rintro rfl; simp at hk)
  obtain ⟨ol, cl, p, q, r, s⟩ := hc k l[k] (by simp [hk])
  exact ⟨b, o, ol, cl, e, hb, p, q, r, s 0 _ rfl, s 1 _ rfl, s 2 _ rfl, s 3 _ rfl, s 4 _ rfl, s 5 _ rfl, s 6 _ rfl, s 7 _ rfl, s 8 _ rfl⟩
/-- A step that judge is asked of here. -/
def StOK (n : Nat) (x : Sv.Stp) : Prop := (x.kind = 1 ∨ x.kind = 3) ∧ ValidC n x.lits
theorem JS.keep {w0 w w' : World} {b : Nat} {L : FmL} {f : Sv.Frm} {cls : List (List Int)} (h : JS w0 w b L f cls) (k : Keep NoS w w') : JS w0 w' b L f cls := by
  obtain ⟨h1, h2, ov, cv, h3, h4, h5⟩ := h
  exact ⟨h1.both k, h2, ov, cv, h3.keep k, h4.keep k, h5⟩
theorem cfw1 (a : Array Value) (w : World) : Sem.run Tryz.prog (callFunc 62 a) w = .ok (.enter 62 a) w := by kernel_rfl
theorem jwhy1_any (w : World) (v : Value) (c : List Int) (h : IsInts w v c) : Calls Tryz.prog 62 #[v] w fun e w' => e = .returned (.bool c.isEmpty) ∧ Keep NoS w w' := by
  obtain ⟨o, cc, rfl, _⟩ := h.len
  have e1 : c.isEmpty = decide (c.length = 0) := by cases c <;> simp
  rw [e1]
  generalize c.length = n at *
  clear h e1
  go_enter Tryz.func62, Tryz.ntmps62
  go_wp2
  go_ret
  exact ⟨congrArg (fun b : Bool => Ending.returned (.bool b)) (by rw [Bool.eq_iff_iff]; simp), by (repeat' (with_reducible first | assumption | exact HK.out | exact keR | refine keA ?_ | refine keS ?_ fun h => absurd h (by omega) | refine keN ?_ | refine keD ?_))⟩
theorem whyJ_at {f : Sv.Frm} {l : List Sv.Stp} {k : Nat} {cls : List (List Int)} (hk : k < l.length) : Sv.whyJ f (l.drop k) k cls = if Sv.stepJ f cls l[k] = true then Sv.whyJ f (l.drop (k + 1)) (k + 1) (cls ++ [l[k].lits]) else (k : Int) := by
  rw [List.drop_eq_getElem_cons hk]; rfl
theorem clsOK_take {n : Nat} {cls : List (List Int)} {l : List Sv.Stp} (hc : Cd.ClsOK n cls) (hl : ∀ x ∈ l, StOK n x) (k : Nat) : Cd.ClsOK n (cls ++ (l.take k).map Sv.Stp.lits) := by
  intro c hm
  rcases List.mem_append.1 hm with h | h
  · exact hc c h
  · obtain ⟨x, hx, rfl⟩ := List.mem_map.1 h
    exact (hl x (List.mem_of_mem_take hx)).2
set_option maxRecDepth 100000 in
set_option maxHeartbeats 16000000 in
theorem jwhy_any (w : World) (L : FmL) (f : Sv.Frm) (v : Value) (l : List Sv.Stp) (hf : IsForm w L f) (hok : FmOK f) (hv : IsSteps w v l) (hs : ∀ x ∈ l, StOK f.atoms.length x) (hcl : f.cls.length + l.length ≤ 100000) (hln : l.length ≤ 3000) :
    Calls Tryz.prog 28 #[L.v f, v] w fun e w' => e = .returned (.tuple #[.int .i64 (Sv.whyJ f l 0 f.cls), .agg #[.int .i64 0, .int .i64 0]]) ∧ Keep NoS w w' := by
  obtain ⟨os, cs, rfl, _⟩ := hv.len
  have CC := Lib.hid (fun w' (k : Keep NoS w w') => fcheck_any w' L f (hf.keep k) hok)
  have HF := Lib.hid hf
  have HOK := Lib.hid hok
  have HV := Lib.hid hv
  have HS := Lib.hid hs
  have HCLN := Lib.hid hcl
  have HLN := Lib.hid hln
  have h3000 : ¬ 3000 < (l.length : Int) := by omega
  obtain ⟨w2, hw2⟩ : ∃ w2 : World, w2 = (w.alloc (.cells #[.slice L.ot f.terms.length L.ct, .slice none 0 0, .slice L.oa f.atoms.length L.ca, .slice L.oc f.cls.length L.cc] TFm)).alloc (.cells #[.int .i64 0, .int .i64 0] TFa) := ⟨_, rfl⟩
  have K2 : Hid (Keep NoS w w2) := Lib.hid (by rw [hw2]; exact ((Keep.refl _ _).alloc _).alloc _)
  have B1 : Hid (Blk w2 w.heap.size #[.slice L.ot f.terms.length L.ct, .slice none 0 0, .slice L.oa f.atoms.length L.ca, .slice L.oc f.cls.length L.cc]) := Lib.hid (by rw [hw2]; exact Blk.old (blk_at _ _ rfl) _)
  have B2 : Hid (Blk w2 (w.heap.size + 1) #[.int .i64 0, .int .i64 0]) := Lib.hid (by rw [hw2]; exact blk_at _ _ (by simp))
  have HG := Lib.hid (Nat.le_refl w.heap.size)
  unfold FmL.v at CC ⊢
  clear hf hok hv hs hcl hln
  go_enter Tryz.func28, Tryz.ntmps28
  go_upto_region 1 with fail
  rw [← hw2]
  clear hw2
  generalize hg1 : w.heap.size = g1 at *
  have HG1 := Lib.hid hg1
  clear hg1
  have x0 := B1.out.cell 0
  have x1 := B1.out.cell 1
  have x2 := B1.out.cell 2
  have x3 := B1.out.cell 3
  have xl := B1.out.lt
  simp at x0 x1 x2 x3
  have CC := Lib.hid (CC.out w2 K2.out)
  go_wp2_with fail
  refine CC.out.mono ?_
  rintro e w3 ⟨rfl, hk3⟩
  have K4 : Hid (Keep NoS w2 (w3.alloc (.cells #[.int .i64 0, .int .i64 0] TFa))) := Lib.hid (Keep.both hk3 ((Keep.refl _ _).alloc _))
  have B14 := Lib.hid (B1.out.keep K4.out)
  have x0 := B14.out.cell 0
  have x1 := B14.out.cell 1
  have x2 := B14.out.cell 2
  have x3 := B14.out.cell 3
  have xl := B14.out.lt
  simp at x0 x1 x2 x3
  clear hk3 CC B1
  go_upto_region 6 with fail
  generalize w3.alloc (.cells #[.int .i64 0, .int .i64 0] TFa) = w4 at *
  have K24 : Hid (Keep NoS w w4) := Lib.hid (K2.out.both K4.out)
  have CL := Lib.hid (fun w' (k : Keep NoS w4 w') => jclone_any w4 w' L.oc L.cc f.cls (HF.out.c.keep K24.out) k (by have := HCLN.out; omega))
  refine wp_region_by (fun w' => Keep NoS w4 w') [] [([0, 1, 2], 3), ([4], 5)] [6] (by kernel_rfl) (by kernel_rfl) (Keep.refl _ _).drew ?_
  intro X W hne hF hcl
  have HCL := Lib.hid hcl
  have z0 := fun x => ((hF x).cell xl).trans x0
  have z1 := fun x => ((hF x).cell xl).trans x1
  have z2 := fun x => ((hF x).cell xl).trans x2
  have z3 := fun x => ((hF x).cell xl).trans x3
  have zl := fun x => Nat.lt_of_lt_of_le xl (hF x).size
  clear hF hcl
  simp only [wpPlan, pickOps, List.getElem?_toArray, List.getElem?_cons_zero, List.getElem?_cons_succ, clsOf, Bool.false_eq_true, if_false]
  (repeat (quiet_step (fail))); refine wpQuiet_nil ?_
  refine wpAt rfl rfl fun K hK => ?_
  go_simp
  refine (CL.out _ (Keep.refl _ _).drew).mono ?_
  rintro e w5 ⟨ov, cv, rfl, ho5, hk5⟩
  have k5 : Keep NoS w4 w5 := Keep.both (Keep.refl _ _).drew hk5
  refine hK _ _ ⟨fun _ => HCL.out _ k5, ?_⟩
  clear hK K hk5
  (repeat (quiet_step (fail))); refine wpQuiet_nil ?_
  refine wpAt rfl rfl fun K hK => ?_
  go_simp
  have k6 : Keep NoS w4 (w5.alloc (.cells #[.slice L.ot f.terms.length L.ct, .slice none 0 0, .slice L.oa f.atoms.length L.ca, .slice L.oc f.cls.length L.cc, .slice ov f.cls.length cv] TSj)) := k5.alloc _
  refine hK _ _ ⟨fun _ => HCL.out _ k6, ?_⟩
  clear hK K
  (repeat (quiet_step (fail))); refine wpQuiet_nil ?_
  refine NoPanic.normal ?_
  have HJ0 : Hid (JS w4 (w5.alloc (.cells #[.slice L.ot f.terms.length L.ct, .slice none 0 0, .slice L.oa f.atoms.length L.ca, .slice L.oc f.cls.length L.cc, .slice ov f.cls.length cv] TSj)) w5.heap.size L f f.cls) := Lib.hid ⟨k6, k5.size, ov, cv, blk_at _ _ rfl, ho5.keep ((Keep.refl _ _).alloc _), fun q hq => by have := (ho5.block q hq).2; omega⟩
  have BF := Lib.hid (B2.out.keep K4.out)
  clear k5 k6 ho5 HCL CL z0 z1 z2 z3 zl x0 x1 x2 x3 xl
  generalize w5.alloc (.cells #[.slice L.ot f.terms.length L.ct, .slice none 0 0, .slice L.oa f.atoms.length L.ca, .slice L.oc f.cls.length L.cc, .slice ov f.cls.length cv] TSj) = w6 at *
  generalize w5.heap.size = bS at *
  go_wp2
  go_loopw [28] (fun s wr => ∃ k : Nat, k ≤ l.length ∧ s = .int .i64 k ∧ JS w4 wr bS L f (f.cls ++ (l.take k).map Sv.Stp.lits) ∧ Sv.whyJ f l 0 f.cls = Sv.whyJ f (l.drop k) k (f.cls ++ (l.take k).map Sv.Stp.lits)) (fun s _ => (l.length - intOf s).toNat)
  case atStart => exact ⟨0, by omega, rfl, by simpa using HJ0.out, by simp⟩
  case round =>
  obtain ⟨k, hk, rfl, hJ, hw⟩ := hrel
  have HJ := Lib.hid hJ
  have HW := Lib.hid hw
  have HKR := Lib.hid hJ.k
  clear hJ hw HJ0
  by_cases hkl : k < l.length
  case pos =>
    have hlt : (k : Int) < (l.length : Int) := by omega
    obtain ⟨lb, lo, ol, cl, hv, hbl, hints, hcap, hcm, p0, p1, p2, p3, p4, p5, p6, p7, p8⟩ := ((HV.out.keep K24.out).keep HKR.out).at hkl
    subst hv
    have HINT : Hid (IsInts w4 (.slice ol l[k].lits.length cl) l[k].lits) := by
      obtain ⟨lb', lo', ol', cl', hv', hbl', hints', _, _, p0', p1', _⟩ := (HV.out.keep K24.out).at hkl
      cases hv'
      have q := (HKR.out.cell hbl').trans p1'
      rw [p1] at q
      cases q
      exact Lib.hid hints'
    have HST := HS.out l[k] (List.getElem_mem hkl)
    have CT := Lib.hid (fun w' (k' : Keep NoS wr w') => jstep_any w4 w' bS L f _ l[k].kind ol cl l[k].lits (HJ.out.keep k') (HF.out.keep K24.out) HOK.out (clsOK_take (fun c hc => (HOK.out.c.c c hc).1) HS.out k) HINT.out hcap hcm HST.2 HST.1 (by have := HCLN.out; simp; omega))
    have HWA := Lib.hid (HW.out.trans (whyJ_at hkl))
    have HCL2 : Hid (f.cls ++ (l.take k).map Sv.Stp.lits ++ [l[k].lits] = f.cls ++ (l.take (k + 1)).map Sv.Stp.lits) := Lib.hid (by rw [List.take_succ_eq_append_getElem hkl, List.map_append, List.append_assoc]; rfl)
    clear HW hints hcap hcm HST
    have e1 : (⟨l[k].kind, l[k].lits⟩ : Sv.Stp) = l[k] := rfl
    rw [e1] at CT
    unfold stV at CT
    generalize Sv.stepJ f (f.cls ++ (l.take k).map Sv.Stp.lits) l[k] = r at *
    generalize l[k].lits = xl at *
    generalize l[k].kind = xk at *
    have CT1 := Lib.hid (CT.out (wr.alloc (.cells #[.int .i64 xk, .slice ol xl.length cl, .slice none 0 0, .int .i64 0, .int .i64 0, .int .i64 0, .slice none 0 0, .int .i64 0, .int .i64 0] TSt)) ((Keep.refl _ _).alloc _))
    clear CT e1
    have HLN' := HLN.out
    go_wp2_with fail
    refine CT1.out.mono ?_
    rintro e w8 ⟨rfl, hk8, hJ8⟩
    cases r
    case false =>
      have HE := Lib.hid (HWA.out.trans (if_neg Bool.false_ne_true))
      have B8 := BF.out.keep hk8
      have c0 := B8.cell 0
      have c1 := B8.cell 1
      have f0 := B8.free 0
      have f1 := B8.free 1
      have rl := B8.lt
      simp at c0 c1
      have K8 := Lib.hid (K24.out.both hk8)
      clear hk8 hJ8 CT1 p0 p1 p2 p3 p4 p5 p6 p7 p8 B8
      go_wp2
      refine bodyPost_ret (by simp [results, Tryz.results28, go_sem, c0, c1, rl]; rfl) rfl ?_
      exact ⟨by rw [HE.out], (K8.out.setCell _ fun hh => absurd hh (by have := HG1.out; omega)).setCell _ fun hh => absurd hh (by have := HG1.out; omega)⟩
    case true =>
      have HE := Lib.hid (HWA.out.trans (if_pos rfl))
      have HJ8 := Lib.hid (hJ8 rfl)
      clear hk8 hJ8 CT1 p0 p1 p2 p3 p4 p5 p6 p7 p8
      go_wp2
      go_roundw
      case rel => exact ⟨k + 1, by omega, by go_num, by rw [← HCL2.out]; exact HJ8.out, by rw [← HCL2.out]; exact HE.out⟩
      case measure => simp [intOf]; omega
  case neg =>
    have hlt : ¬ (k : Int) < (l.length : Int) := by omega
    have hkk : k = l.length := by omega
    subst hkk
    obtain ⟨kj, sj, ov', cv', hBj, hOj, _⟩ := HJ.out
    have HE : Hid (Sv.whyJ f l 0 f.cls = if ((f.cls ++ (l.take l.length).map Sv.Stp.lits).any fun c => c.isEmpty) = true then -1 else (l.length : Int)) := Lib.hid (HW.out.trans (by rw [List.drop_length]; rfl))
    have CA := Lib.hid (clsAny_any 62 #[] cfw1 (fun c => c.isEmpty) wr _ _ (hOj.cls kj) (fun w' _ c _ sv h => by simpa using jwhy1_any w' sv c h))
    have b4 : wr.cell? ⟨bS, 4, none⟩ = some (.slice ov' (f.cls ++ (l.take l.length).map Sv.Stp.lits).length cv') := hBj.cell 4
    have bl := hBj.lt
    generalize ((f.cls ++ (l.take l.length).map Sv.Stp.lits).any fun c => c.isEmpty) = r at *
    generalize (f.cls ++ (l.take l.length).map Sv.Stp.lits).length = nc at *
    clear HW HJ hBj hOj kj sj
    have HLN' := HLN.out
    go_wp2_with fail
    refine CA.out.mono ?_
    rintro e w8 ⟨rfl, hk8⟩
    have B8 := BF.out.keep (HKR.out.both hk8)
    have c0 := B8.cell 0
    have c1 := B8.cell 1
    have f0 := B8.free 0
    have f1 := B8.free 1
    have rl := B8.lt
    simp at c0 c1
    have K8 := Lib.hid (K24.out.both (HKR.out.both hk8))
    clear hk8 CA B8
    cases r
    case false =>
      go_wp2
      refine bodyPost_ret (by simp [results, Tryz.results28, go_sem, c0, c1, rl]; rfl) rfl ?_
      exact ⟨by rw [HE.out]; rfl, (K8.out.setCell _ fun hh => absurd hh (by have := HG1.out; omega)).setCell _ fun hh => absurd hh (by have := HG1.out; omega)⟩
    case true =>
      go_wp2
      refine bodyPost_ret (by simp [results, Tryz.results28, go_sem, c0, c1, rl]; rfl) rfl ?_
      exact ⟨by rw [HE.out]; rfl, (K8.out.setCell _ fun hh => absurd hh (by have := HG1.out; omega)).setCell _ fun hh => absurd hh (by have := HG1.out; omega)⟩
end Go.Proofs.YtnndmdfjdodiiaaGreat
