/- Package judge: step. -/
import Derived.Test.YtnndmdfjdodiiaaGreatTtJJ
namespace Go.Proofs.YtnndmdfjdodiiaaGreat
open Go.ChangeShapes Go.WideShapes Go.RowKit Go.Maps
set_option linter.unusedVariables false
set_option linter.unusedSimpArgs false

def JStP (w0 : World) (b : Nat) (L : FmL) (f : Sv.Frm) (cls : List (List Int)) (lits : List Int) (r : Bool) (e : Ending) (w' : World) : Prop :=
  e = .returned (.bool r) ∧ Keep NoS w0 w' ∧ (r = true → JS w0 w' b L f (cls ++ [lits]))
theorem World.ownsRow_set_other {w : World} {base : Nat} {e : TypeId} {k : Nat} {v : Value} {n : Nat} {xs : List Value} {b i : Nat} {u : Value} (h : w.ownsRow base e k v n xs) (hb : ∀ q, v.ownBlock = some q → q ≠ b) : (w.setCell ⟨b, i, none⟩ u).ownsRow base e k v n xs := by
  obtain ⟨hl, h | ⟨g, cap, cur, hv, hb', hg, hl', hm, hs, ht⟩⟩ := h
  · exact ⟨hl, .inl h⟩
  · exact ⟨hl, .inr ⟨g, cap, cur, hv, hb', by rw [heap_setCell_other _ _ _ _ (hb g (by rw [hv]; rfl))]; exact hg, hl', hm, hs, ht⟩⟩

set_option maxRecDepth 100000 in
set_option maxHeartbeats 16000000 in
theorem jstep_any (w0 w : World) (b : Nat) (L : FmL) (f : Sv.Frm) (cls : List (List Int)) (k : Int) (o : Option Addr) (c : Nat) (lits : List Int) (h : JS w0 w b L f cls) (hf : IsForm w0 L f) (hok : FmOK f) (hc : Cd.ClsOK f.atoms.length cls) (hv : IsInts w0 (.slice o lits.length c) lits) (hcap : lits.length ≤ c) (hcm : c ≤ maxLen) (hlv : ValidC f.atoms.length lits) (hk : k = 1 ∨ k = 3) (hcl : cls.length ≤ 100000) :
    Calls Tryz.prog 60 #[.pointer (some ⟨b, 0, none⟩), stV k o lits.length c] w fun e w' => JStP w0 b L f cls lits (Sv.stepJ f cls ⟨k, lits⟩) e w' := by
  obtain ⟨hkw, hsb, ov, cv, hB, hO, hne⟩ := h
  have hle := hlv.le
  have hn20 := hok.n
  have b0 : w.cell? ⟨b, 0, none⟩ = some (.slice L.ot f.terms.length L.ct) := hB.cell 0
  have b2 : w.cell? ⟨b, 2, none⟩ = some (.slice L.oa f.atoms.length L.ca) := hB.cell 2
  have CF := Lib.hid (fun w' (k' : Keep NoS w w') => jformed_any w' b L.oa f.atoms.length L.ca k o c lits hk ((k'.cell hB.lt).trans b2) (Nat.lt_of_lt_of_le hB.lt k'.size) (hv.keep (hkw.both k')) hcap hlv (by omega))
  have CS := Lib.hid (fun w' (k' : Keep NoS w w') => jsame_any w' b L.ot L.oa L.ct L.ca f _ lits ((k'.cell hB.lt).trans b0) ((k'.cell hB.lt).trans b2) (Nat.lt_of_lt_of_le hB.lt k'.size) (hf.t.keep (hkw.both k')) (hf.a.keep (hkw.both k')) (hv.keep (hkw.both k')) hlv.2 (by omega) hok.a hok.t.ok (by omega))
  have CU := Lib.hid (fun w' (k' : Keep NoS w w') => falls_any f.atoms.length w' ov cv cls _ lits ((hO.keep k').cls (hkw.both k')) (hv.keep (hkw.both k')) hc (by omega) hlv)
  have HVC : Hid (IsInts w0 (.slice o lits.length c) lits ∧ CapS (.slice o lits.length c)) := Lib.hid ⟨hv, o, _, c, rfl, hcap, hcm⟩
  have HCL1 := Lib.hid hcl
  have HSB := Lib.hid hsb
  have HNE := Lib.hid hne
  have HO0 := Lib.hid hO
  have HB0 := Lib.hid hB
  have K0 := Lib.hid hkw
  obtain ⟨w2, hw2⟩ : ∃ w2 : World, w2 = w.alloc (.cells (stC k o lits.length c) TSt) := ⟨_, rfl⟩
  have K2 : Hid (Keep NoS w w2) := Lib.hid (by rw [hw2]; exact (Keep.refl _ _).alloc _)
  have B1 : Hid (Blk w2 w.heap.size (stC k o lits.length c)) := Lib.hid (by rw [hw2]; exact blk_at _ _ rfl)
  have HR0 : Hid (Sv.stepJ f cls ⟨k, lits⟩ = if k = 1 then Sv.fallsF f.atoms.length cls lits else Sv.sameJ f lits) := Lib.hid rfl
  generalize Sv.stepJ f cls ⟨k, lits⟩ = R at *
  generalize Sv.fallsF f.atoms.length cls lits = rf at *
  generalize Sv.sameJ f lits = rs at *
  unfold stC at hw2
  unfold stV at *
  clear hf hok hc hv hcap hcm hlv hcl hsb hne hO hB hkw b0 b2 hle hn20
  unfold JStP
  rcases hk with rfl | rfl
  case inl =>
    have HR := Lib.hid (HR0.out.trans (if_pos rfl))
    clear HR0
    go_enter Tryz.func60, Tryz.ntmps60
    go_upto_region 1 with fail
    rw [← hw2]
    clear hw2
    generalize w.heap.size = g at *
    obtain ⟨x0, x1, x2, x3, x4, x5, x6, x7, x8, xl⟩ := stC_cells B1.out
    have CF := Lib.hid (CF.out w2 K2.out)
    go_wp2_with fail
    refine CF.out.mono ?_
    rintro e w3 ⟨rfl, hk3⟩
    have K3 : Hid (Keep NoS w w3) := Lib.hid (K2.out.both hk3)
    obtain ⟨x0, x1, x2, x3, x4, x5, x6, x7, x8, xl⟩ := stC_cells (B1.out.keep hk3)
    have B3 := Lib.hid (B1.out.keep hk3)
    have bb4 : w3.cell? ⟨b, 4, none⟩ = some (.slice ov cls.length cv) := (HB0.out.keep K3.out).cell 4
    have bbl := (HB0.out.keep K3.out).lt
    clear hk3 CF
    go_upto_region 6 with fail
    refine wp_region_by (fun w' => Keep NoS w3 w') [] [([0, 1, 2, 3, 4, 5], 6)] [7] (by kernel_rfl) (by kernel_rfl) (Keep.refl _ _).drew ?_
    intro X W hne hF hcl
    have HCL := Lib.hid hcl
    have z4 := fun x => ((hF x).cell bbl).trans bb4
    have z1 := fun x => ((hF x).cell xl).trans x1
    have zl := fun x => Nat.lt_of_lt_of_le bbl (hF x).size
    have zm := fun x => Nat.lt_of_lt_of_le xl (hF x).size
    clear hF hcl
    simp only [wpPlan, pickOps, List.getElem?_toArray, List.getElem?_cons_zero, List.getElem?_cons_succ, clsOf, Bool.false_eq_true, if_false]
    (repeat (quiet_step (fail))); refine wpQuiet_nil ?_
    refine wpAt rfl rfl fun K hK => ?_
    go_simp
    refine (CU.out _ (K3.out.both (Keep.refl _ _).drew)).mono ?_
    rintro e w4 ⟨rfl, hk⟩
    have k4 : Keep NoS w3 w4 := Keep.both (Keep.refl _ _).drew hk
    refine hK _ _ ⟨fun _ => HCL.out _ k4, ?_⟩
    clear hK K hk
    (repeat (quiet_step (fail))); refine wpQuiet_nil ?_
    refine NoPanic.normal ?_
    have HO := Lib.hid (HO0.out.keep (K3.out.both k4))
    have HB := Lib.hid (HB0.out.keep (K3.out.both k4))
    have K4 := Lib.hid (K0.out.both (K3.out.both k4))
    obtain ⟨x0, x1, x2, x3, x4, x5, x6, x7, x8, xl⟩ := stC_cells (B3.out.keep k4)
    have b4 : w4.cell? ⟨b, 4, none⟩ = some (.slice ov cls.length cv) := HB.out.cell 4
    have bl := HB.out.lt
    have HBL4 := Lib.hid bl
    clear k4 CU CS
    cases rf
    case false =>
      go_wp2
      go_ret
      exact ⟨by rw [HR.out]; rfl, K4.out, fun h => by rw [HR.out] at h; cases h⟩
    case true =>
    go_upto_region 25 with fail
    refine wp_region_by (fun w' => Keep NoS w4 w') [0, 8, 9, 10, 11] [([0, 1, 2, 3, 4, 5, 6], 7), ([], 8), ([9, 10], 11)] [] (by kernel_rfl) (by kernel_rfl) (Keep.refl _ _).drew ?_
    intro X W hne hF hcl
    have HCL := Lib.hid hcl
    have z4 := fun x => ((hF x).cell bl).trans b4
    have z1 := fun x => ((hF x).cell xl).trans x1
    have zl := fun x => Nat.lt_of_lt_of_le bl (hF x).size
    have zm := fun x => Nat.lt_of_lt_of_le xl (hF x).size
    clear hF hcl
    simp only [wpPlan, pickOps, List.getElem?_toArray, List.getElem?_cons_zero, List.getElem?_cons_succ, clsOf, Bool.false_eq_true, if_false]
    (repeat (quiet_step (fail))); refine wpQuiet_nil ?_
    refine wpAt rfl rfl fun K hK => ?_
    go_simp
    have k5 : Keep NoS w4 (w4.alloc (.cells #[.slice o lits.length c] TLi)).drew := ((Keep.refl _ _).alloc _).drew
    refine hK _ _ ⟨fun _ => HCL.out _ k5, ?_⟩
    have ho5 := HO.out.keep k5
    obtain ⟨v6, w6, hr6, ho6, hg6, hb6⟩ := ho5.app (b := w4.heap.size) (x := .slice o lits.length c) (c := lits) (Blk.keep (blk_at _ _ rfl) (Keep.refl _ _).drew) HVC.out.1 HVC.out.2 HCL1.out (K4.out.both k5).size
    obtain ⟨o6, c6, hs6, _⟩ := ho6.len
    have HB6 : Blk w6 b #[.slice L.ot f.terms.length L.ct, .slice none 0 0, .slice L.oa f.atoms.length L.ca, .slice L.oc f.cls.length L.cc, .slice ov cls.length cv] := by
      obtain ⟨tt, htt⟩ := HB.out.keep k5
      exact ⟨tt, (hg6.block b (lt_of_heap htt) fun e => HNE.out _ e.symm rfl).trans htt⟩
    have hne6 : ∀ k, v6.ownBlock = some k → k ≠ b := by
      intro k hk
      rcases hb6 with h | h
      · exact HNE.out k (h ▸ hk)
      · rw [h] at hk
        have := k5.size
        have := HBL4.out
        injection hk with hk
        omega
    have K6 : Keep NoS w0 w6 := (K4.out.both k5).grown hg6 fun kk hh => (ho5.block kk hh).1
    have HJ : Hid (JS w0 (w6.setCell ⟨b, 4, none⟩ (.slice o6 (cls ++ [lits]).length c6)) b L f (cls ++ [lits])) := Lib.hid (by
      subst hs6
      refine ⟨K6.setCell _ fun hh => absurd hh (by have := HSB.out; omega), HSB.out, o6, c6, HB6.set 4 _, ?_, hne6⟩
      obtain ⟨vs, h1, h2, h3⟩ := ho6
      exact ⟨vs, h1, World.ownsRow_set_other h2 hne6, h3⟩)
    subst hs6
    rw [List.length_append, List.length_singleton] at HJ hr6
    have f4 := HB6.free 4
    have g4 := HB6.cell 4
    have gl := HB6.lt
    clear hK k5 ho5 ho6 HB6 hne6 K6 HCL hg6 hb6
    simp at g4
    (repeat (quiet_step (fail))); refine wpQuiet_nil ?_
    refine wpAt rfl rfl fun K hK => ?_
    refine wp_app_run _ _ 26 _ _ rfl rfl rfl hr6 ?_
    refine hK _ _ ⟨fun h => (by simp at h), ?_⟩
    clear hK hr6
    (repeat (quiet_step (fail))); refine wpQuiet_nil ?_
    refine wpAt rfl rfl fun K hK => ?_
    go_simp
    refine hK _ _ ⟨fun h => (by simp at h), ?_⟩
    clear hK
    (repeat (quiet_step (fail))); refine wpQuiet_nil ?_
    refine NoPanic.normal ?_
    go_wp2
    go_ret
    exact ⟨by rw [HR.out]; rfl, HJ.out.k, fun _ => HJ.out⟩
  case inr =>
    have HR := Lib.hid (HR0.out.trans (if_neg (by omega)))
    clear HR0
    go_enter Tryz.func60, Tryz.ntmps60
    go_upto_region 1 with fail
    rw [← hw2]
    clear hw2
    generalize w.heap.size = g at *
    obtain ⟨x0, x1, x2, x3, x4, x5, x6, x7, x8, xl⟩ := stC_cells B1.out
    have CF := Lib.hid (CF.out w2 K2.out)
    go_wp2_with fail
    refine CF.out.mono ?_
    rintro e w3 ⟨rfl, hk3⟩
    have K3 : Hid (Keep NoS w w3) := Lib.hid (K2.out.both hk3)
    obtain ⟨x0, x1, x2, x3, x4, x5, x6, x7, x8, xl⟩ := stC_cells (B1.out.keep hk3)
    have B3 := Lib.hid (B1.out.keep hk3)
    have bb4 : w3.cell? ⟨b, 4, none⟩ = some (.slice ov cls.length cv) := (HB0.out.keep K3.out).cell 4
    have bbl := (HB0.out.keep K3.out).lt
    clear hk3 CF
    have CS := Lib.hid (CS.out w3 K3.out)
    go_wp2_with fail
    refine CS.out.mono ?_
    rintro e w4 ⟨rfl, hk⟩
    have k4 := hk
    clear hk
    have HO := Lib.hid (HO0.out.keep (K3.out.both k4))
    have HB := Lib.hid (HB0.out.keep (K3.out.both k4))
    have K4 := Lib.hid (K0.out.both (K3.out.both k4))
    obtain ⟨x0, x1, x2, x3, x4, x5, x6, x7, x8, xl⟩ := stC_cells (B3.out.keep k4)
    have b4 : w4.cell? ⟨b, 4, none⟩ = some (.slice ov cls.length cv) := HB.out.cell 4
    have bl := HB.out.lt
    have HBL4 := Lib.hid bl
    clear k4 CU CS
    cases rs
    case false =>
      go_wp2
      go_ret
      exact ⟨by rw [HR.out]; rfl, K4.out, fun h => by rw [HR.out] at h; cases h⟩
    case true =>
    go_upto_region 25 with fail
    refine wp_region_by (fun w' => Keep NoS w4 w') [0, 8, 9, 10, 11] [([0, 1, 2, 3, 4, 5, 6], 7), ([], 8), ([9, 10], 11)] [] (by kernel_rfl) (by kernel_rfl) (Keep.refl _ _).drew ?_
    intro X W hne hF hcl
    have HCL := Lib.hid hcl
    have z4 := fun x => ((hF x).cell bl).trans b4
    have z1 := fun x => ((hF x).cell xl).trans x1
    have zl := fun x => Nat.lt_of_lt_of_le bl (hF x).size
    have zm := fun x => Nat.lt_of_lt_of_le xl (hF x).size
    clear hF hcl
    simp only [wpPlan, pickOps, List.getElem?_toArray, List.getElem?_cons_zero, List.getElem?_cons_succ, clsOf, Bool.false_eq_true, if_false]
    (repeat (quiet_step (fail))); refine wpQuiet_nil ?_
    refine wpAt rfl rfl fun K hK => ?_
    go_simp
    have k5 : Keep NoS w4 (w4.alloc (.cells #[.slice o lits.length c] TLi)).drew := ((Keep.refl _ _).alloc _).drew
    refine hK _ _ ⟨fun _ => HCL.out _ k5, ?_⟩
    have ho5 := HO.out.keep k5
    obtain ⟨v6, w6, hr6, ho6, hg6, hb6⟩ := ho5.app (b := w4.heap.size) (x := .slice o lits.length c) (c := lits) (Blk.keep (blk_at _ _ rfl) (Keep.refl _ _).drew) HVC.out.1 HVC.out.2 HCL1.out (K4.out.both k5).size
    obtain ⟨o6, c6, hs6, _⟩ := ho6.len
    have HB6 : Blk w6 b #[.slice L.ot f.terms.length L.ct, .slice none 0 0, .slice L.oa f.atoms.length L.ca, .slice L.oc f.cls.length L.cc, .slice ov cls.length cv] := by
      obtain ⟨tt, htt⟩ := HB.out.keep k5
      exact ⟨tt, (hg6.block b (lt_of_heap htt) fun e => HNE.out _ e.symm rfl).trans htt⟩
    have hne6 : ∀ k, v6.ownBlock = some k → k ≠ b := by
      intro k hk
      rcases hb6 with h | h
      · exact HNE.out k (h ▸ hk)
      · rw [h] at hk
        have := k5.size
        have := HBL4.out
        injection hk with hk
        omega
    have K6 : Keep NoS w0 w6 := (K4.out.both k5).grown hg6 fun kk hh => (ho5.block kk hh).1
    have HJ : Hid (JS w0 (w6.setCell ⟨b, 4, none⟩ (.slice o6 (cls ++ [lits]).length c6)) b L f (cls ++ [lits])) := Lib.hid (by
      subst hs6
      refine ⟨K6.setCell _ fun hh => absurd hh (by have := HSB.out; omega), HSB.out, o6, c6, HB6.set 4 _, ?_, hne6⟩
      obtain ⟨vs, h1, h2, h3⟩ := ho6
      exact ⟨vs, h1, World.ownsRow_set_other h2 hne6, h3⟩)
    subst hs6
    rw [List.length_append, List.length_singleton] at HJ hr6
    have f4 := HB6.free 4
    have g4 := HB6.cell 4
    have gl := HB6.lt
    clear hK k5 ho5 ho6 HB6 hne6 K6 HCL hg6 hb6
    simp at g4
    (repeat (quiet_step (fail))); refine wpQuiet_nil ?_
    refine wpAt rfl rfl fun K hK => ?_
    refine wp_app_run _ _ 26 _ _ rfl rfl rfl hr6 ?_
    refine hK _ _ ⟨fun h => (by simp at h), ?_⟩
    clear hK hr6
    (repeat (quiet_step (fail))); refine wpQuiet_nil ?_
    refine wpAt rfl rfl fun K hK => ?_
    go_simp
    refine hK _ _ ⟨fun h => (by simp at h), ?_⟩
    clear hK
    (repeat (quiet_step (fail))); refine wpQuiet_nil ?_
    refine NoPanic.normal ?_
    go_wp2
    go_ret
    exact ⟨by rw [HR.out]; rfl, HJ.out.k, fun _ => HJ.out⟩
end Go.Proofs.YtnndmdfjdodiiaaGreat
