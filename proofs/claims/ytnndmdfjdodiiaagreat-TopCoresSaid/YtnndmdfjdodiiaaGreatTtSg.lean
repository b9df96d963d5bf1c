/- Package solve: copied. -/
import Derived.Test.YtnndmdfjdodiiaaGreatTtSf
namespace Go.Proofs.YtnndmdfjdodiiaaGreat
open Go.ChangeShapes Go.WideShapes Go.RowKit Go.Maps
set_option linter.unusedVariables false
set_option linter.unusedSimpArgs false

abbrev TVd : TypeId := 49
theorem cloneN_any (w : World) : Calls Tryz.prog 25 #[.slice none 0 0] w fun e w' => e = .returned (.slice none 0 0) ∧ w' = w := by
  have e1 : ∀ w, Sem.run Tryz.prog (binOp BinOp.eql 22 (.slice none 0 0) (.slice none 0 0)) w = .ok (.bool true) w := fun w => by kernel_rfl
  go_enter Tryz.func25, Tryz.ntmps25
  go_wp2
  refine bodyPost_ret (by simp [results, Tryz.results25, go_sem]; rfl) rfl ?_
  exact ⟨rfl, rfl⟩
def vdC (st : Int) (h th s : Value) (u : Int) : Array Value := #[.int .i64 st, h, th, .slice none 0 0, s, .int .i64 u]
theorem vdC_cells {w : World} {b : Nat} {st : Int} {h th s : Value} {u : Int} (hb : Blk w b (vdC st h th s u)) : w.cell? ⟨b, 0, none⟩ = some (.int .i64 st) ∧ w.cell? ⟨b, 1, none⟩ = some h ∧ w.cell? ⟨b, 2, none⟩ = some th ∧ w.cell? ⟨b, 3, none⟩ = some (.slice none 0 0) ∧ w.cell? ⟨b, 4, none⟩ = some s ∧ w.cell? ⟨b, 5, none⟩ = some (.int .i64 u) ∧ w.frozen? ⟨b, 0, none⟩ = false ∧ w.frozen? ⟨b, 1, none⟩ = false ∧ w.frozen? ⟨b, 2, none⟩ = false ∧ w.frozen? ⟨b, 3, none⟩ = false ∧ w.frozen? ⟨b, 4, none⟩ = false ∧ w.frozen? ⟨b, 5, none⟩ = false ∧ b < w.heap.size :=
  ⟨hb.cell 0, hb.cell 1, hb.cell 2, hb.cell 3, hb.cell 4, hb.cell 5, hb.free 0, hb.free 1, hb.free 2, hb.free 3, hb.free 4, hb.free 5, hb.lt⟩
set_option maxRecDepth 100000 in
set_option maxHeartbeats 16000000 in
theorem copied_any (w : World) (st : Int) (oh : Option Addr) (nh ch : Nat) (lb : List Bool) (hh : SrcG boC w (.slice oh nh ch) lb) (hlb : lb.length ≤ 1000) (o3 : Option Addr) (n3 c3 : Nat) (os : Option Addr) (cs : Nat) (l : List Sv.Stp) (hs : IsSteps w (.slice os l.length cs) l) (hl : l.length ≤ 5000) (hlit : ∀ x ∈ l, x.lits.length ≤ 1000) (used : Int) :
    Calls Tryz.prog 27 #[.agg #[.int .i64 st, .slice oh nh ch, .slice o3 n3 c3, .slice none 0 0, .slice os l.length cs, .int .i64 used]] w fun e w' => (∃ (p1 : Option Addr) (p2 p3 : Nat) (q1 : Option Addr) (q2 q3 : Nat) (r1 : Option Addr) (r2 r3 : Nat), e = .returned (.agg #[.int .i64 st, .slice p1 p2 p3, .slice q1 q2 q3, .slice none 0 0, .slice r1 r2 r3, .int .i64 used])) ∧ Keep NoS w w' := by
  have HS := Lib.hid hs
  have HLT := Lib.hid hlit
  have CB := Lib.hid (fun w' (k : Keep NoS w w') => cloneB_any w' (.slice oh nh ch) lb (src_keep (K := 1) hh k) (by omega))
  have CI := Lib.hid (fun w' v x (hx : IsInts w' v x) (hl : x.length ≤ 1000) => cloneI_any w' v x hx.srcG (by omega))
  have CF := fun w' => Lib.hid (cloneF_any w')
  have CN := fun w' => Lib.hid (cloneN_any w')
  obtain ⟨m, hm⟩ : ∃ m, l.length = m := ⟨_, rfl⟩
  have HM := Lib.hid hm
  rw [hm] at HS hl ⊢
  obtain ⟨w2, hw2⟩ : ∃ w2 : World, w2 = (w.alloc (.cells #[.int .i64 st, .slice oh nh ch, .slice o3 n3 c3, .slice none 0 0, .slice os m cs, .int .i64 used] TVd)).alloc (.cells #[.int .i64 0, .slice none 0 0, .slice none 0 0, .slice none 0 0, .slice none 0 0, .int .i64 0] TVd) := ⟨_, rfl⟩
  have K2 : Hid (Keep NoS w w2) := Lib.hid (by rw [hw2]; exact ((Keep.refl _ _).alloc _).alloc _)
  have HB1 : Hid (Blk w2 w.heap.size (vdC st (.slice oh nh ch) (.slice o3 n3 c3) (.slice os m cs) used)) := Lib.hid (by rw [hw2]; exact Blk.old (blk_at _ _ rfl) _)
  have HB2 : Hid (Blk w2 (w.heap.size + 1) (vdC 0 (.slice none 0 0) (.slice none 0 0) (.slice none 0 0) 0)) := Lib.hid (by rw [hw2]; exact blk_at _ _ (by simp))
  clear hh hlb hs hlit hm
  go_enter Tryz.func27, Tryz.ntmps27
  go_upto_region 1 with fail
  rw [← hw2]
  clear hw2
  obtain ⟨b1, hb1⟩ : ∃ b1, b1 = w.heap.size := ⟨_, rfl⟩
  rw [← hb1] at HB1 HB2 ⊢
  have HG1 := Lib.hid hb1
  clear hb1
  obtain ⟨x0, x1, x2, x3, x4, x5, f0, f1, f2, f3, f4, f5, xl⟩ := vdC_cells HB1.out
  go_wp2
  clear x0 x1 x2 x3 x4 x5 f0 f1 f2 f3 f4 f5 xl
  go_loopw [9, 3] (fun s v wr => ∃ (k : Nat) (rs : List StR), k ≤ m ∧ s = .int .i64 k ∧ rs.length = k ∧ OwnG TSt 9 stL wr w2.heap.size v rs ∧ Keep NoS w2 wr) (fun s _ _ => (m - intOf s).toNat)
  case atStart => exact ⟨0, [], by omega, rfl, rfl, OwnG.nil _ _, by (repeat' (with_reducible first | assumption | exact HK.out | exact keR | refine keA ?_ | refine keS ?_ fun h => absurd h (by omega) | refine keN ?_ | refine keD ?_))⟩
  case round =>
  obtain ⟨k, rs, hk, rfl, hrl, hor, hkr⟩ := hrel
  have HOR := Lib.hid hor
  have KR := Lib.hid hkr
  have HRL := Lib.hid hrl
  obtain ⟨ro, rc, hrv, _⟩ := OwnG.len hor
  rw [hrl] at hrv
  subst hrv
  clear hor hkr hrl
  by_cases hkl : k < m
  case pos =>
    have hlt : (k : Int) < (m : Int) := by omega
    have hkm : k < l.length := by rw [HM.out]; exact hkl
    obtain ⟨sb, sf, ol, cl, hos, hsb, hin, hcl1, hcl2, p0, p1, p2, p3, p4, p5, p6, p7, p8⟩ := (HS.out.keep (K2.out.both KR.out)).at hkm
    rw [hos]
    have hlx := HLT.out _ (List.getElem_mem hkm)
    have ka : Keep NoS wr (wr.alloc (.cells (stC l[k].kind ol l[k].lits.length cl) TSt)) := (Keep.refl _ _).alloc _
    have HBX : Hid (Blk (wr.alloc (.cells (stC l[k].kind ol l[k].lits.length cl) TSt)) wr.heap.size (stC l[k].kind ol l[k].lits.length cl)) := Lib.hid (blk_at _ _ rfl)
    have HIN := Lib.hid (hin.keep ka)
    have K6 := Lib.hid (KR.out.both ka)
    have HX5 : Hid (w2.heap.size ≤ wr.heap.size) := Lib.hid KR.out.size
    have HOR6 := Lib.hid (OwnG.keep HOR.out ka)
    have HRX : Hid (∀ q, (Value.slice ro k rc).ownBlock = some q → q ≠ wr.heap.size) := Lib.hid (fun q hq => by have := OwnG.lt HOR.out q hq; omega)
    generalize l[k] = x at *
    obtain ⟨kd, lits⟩ := x
    simp only at p0 p1 hlx K6 HBX HIN HOR6
    unfold stC at K6 HBX HIN HOR6
    clear ka hin HOR
    go_upto_region 5 with fail
    generalize wr.alloc (.cells #[.int .i64 kd, .slice ol lits.length cl, .slice none 0 0, .int .i64 0, .int .i64 0, .int .i64 0, .slice none 0 0, .int .i64 0, .int .i64 0] TSt) = w6 at *
    generalize wr.heap.size = b5 at *
    clear p0 p1 p2 p3 p4 p5 p6 p7 p8 hsb
    obtain ⟨x0, x1, x2, x3, x4, x5, x6, x7, x8, xl⟩ := stC_cells HBX.out
    refine wp_region_by (fun w' => Keep NoS w6 w') [12, 13, 14, 15, 16, 17, 18] [([0, 1, 3, 4, 6, 7, 8, 9], 2), ([11], 5), ([], 10), ([], 12), ([13], 14), ([15, 16, 17], 18)] [] (by kernel_rfl) (by kernel_rfl) (Keep.refl _ _).drew ?_
    intro X W hne hF hcl
    have HCL := Lib.hid hcl
    have z1 := fun x => ((hF x).cell xl).trans x1
    have z2 := fun x => ((hF x).cell xl).trans x2
    have z6 := fun x => ((hF x).cell xl).trans x6
    have zl := fun x => Nat.lt_of_lt_of_le xl (hF x).size
    clear hF hcl
    simp only [wpPlan, pickOps, List.getElem?_toArray, List.getElem?_cons_zero, List.getElem?_cons_succ, clsOf, Bool.false_eq_true, if_false]
    (repeat (quiet_step (fail))); refine wpQuiet_nil ?_
    refine wpAt rfl rfl fun K hK => ?_
    go_simp
    refine (CI.out _ _ lits (HIN.out.keep ((Keep.refl NoS w6).drew)) hlx).mono ?_
    rintro e w7 ⟨v7, rfl, ho7, hk7⟩
    have k7 : Keep NoS w6 w7 := Keep.both (Keep.refl _ _).drew hk7
    obtain ⟨o7, c7, hv7, _⟩ := OwnG.len ho7
    subst hv7
    refine hK _ _ ⟨fun _ => HCL.out _ k7, ?_⟩
    clear hK hk7
    (repeat (quiet_step (fail))); refine wpQuiet_nil ?_
    refine wpAt rfl rfl fun K hK => ?_
    go_simp
    refine (CF _).out.mono ?_
    rintro e w8 ⟨rfl, hw8⟩
    subst hw8
    refine hK _ _ ⟨fun _ => HCL.out _ k7, ?_⟩
    clear hK
    (repeat (quiet_step (fail))); refine wpQuiet_nil ?_
    refine wpAt rfl rfl fun K hK => ?_
    go_simp
    refine (CN _).out.mono ?_
    rintro e w8 ⟨rfl, hw8⟩
    subst hw8
    have HB7 := Lib.hid (HBX.out.keep k7)
    have K7 := Lib.hid (K6.out.both k7)
    have HOR7 := Lib.hid (OwnG.keep HOR6.out k7)
    refine hK _ _ ⟨fun _ => HCL.out _ k7, ?_⟩
    clear hK HCL z1 z2 z6 zl x0 x1 x2 x3 x4 x5 x6 x7 x8 xl ho7
    obtain ⟨x0, x1, x2, x3, x4, x5, x6, x7, x8, xl⟩ := stC_cells HB7.out
    have f1 := HB7.out.free 1
    have f2 := HB7.out.free 2
    have f6 := HB7.out.free 6
    (repeat (quiet_step (fail))); refine wpQuiet_nil ?_
    refine wpAt rfl rfl fun K hK => ?_
    go_simp
    refine hK _ _ ⟨fun h => (by simp at h), ?_⟩
    clear hK
    (repeat (quiet_step (fail))); refine wpQuiet_nil ?_
    refine wpAt rfl rfl fun K hK => ?_
    go_simp
    refine hK _ _ ⟨fun h => (by simp at h), ?_⟩
    clear hK
    (repeat (quiet_step (fail))); refine wpQuiet_nil ?_
    refine wpAt rfl rfl fun K hK => ?_
    go_simp
    refine hK _ _ ⟨fun h => (by simp at h), ?_⟩
    clear hK
    (repeat (quiet_step (fail))); refine wpQuiet_nil ?_
    refine NoPanic.normal ?_
    have HB9 : Hid (Blk (((w8.setCell ⟨b5, 1, none⟩ (.slice o7 lits.length c7)).setCell ⟨b5, 2, none⟩ (.slice none 0 0)).setCell ⟨b5, 6, none⟩ (.slice none 0 0)) b5 (stC kd o7 lits.length c7)) := Lib.hid (((HB7.out.set 1 _).set 2 _).set 6 _)
    have HO9 : Hid (OwnG TSt 9 stL (((w8.setCell ⟨b5, 1, none⟩ (.slice o7 lits.length c7)).setCell ⟨b5, 2, none⟩ (.slice none 0 0)).setCell ⟨b5, 6, none⟩ (.slice none 0 0)) w2.heap.size (.slice ro k rc) rs) := Lib.hid (World.ownsRow_set_other (World.ownsRow_set_other (World.ownsRow_set_other HOR7.out HRX.out) HRX.out) HRX.out)
    have K9 : Hid (Keep NoS w2 (((w8.setCell ⟨b5, 1, none⟩ (.slice o7 lits.length c7)).setCell ⟨b5, 2, none⟩ (.slice none 0 0)).setCell ⟨b5, 6, none⟩ (.slice none 0 0))) := Lib.hid (keep_at (keep_at (keep_at K7.out _ HX5.out) _ HX5.out) _ HX5.out)
    clear x0 x1 x2 x3 x4 x5 x6 x7 x8 xl f1 f2 f6 k7
    generalize ((w8.setCell ⟨b5, 1, none⟩ (.slice o7 lits.length c7)).setCell ⟨b5, 2, none⟩ (.slice none 0 0)).setCell ⟨b5, 6, none⟩ (.slice none 0 0) = w9 at *
    obtain ⟨x0, x1, x2, x3, x4, x5, x6, x7, x8, xl⟩ := stC_cells HB9.out
    have ka : Keep NoS w9 (w9.alloc (.cells (stC kd o7 lits.length c7) TSt)) := (Keep.refl _ _).alloc _
    obtain ⟨v10, w10, hr10, ho10, hg10, _⟩ := app_step (OwnG.keep HO9.out ka) (x := ⟨kd, o7, lits.length, c7⟩) (b := w9.heap.size) (blk_at _ _ rfl) (by rw [HRL.out]; omega) (K9.out.both ka).size
    have K10 := Lib.hid ((K9.out.both ka).grown hg10 fun q hq => OwnG.block HO9.out q hq)
    have HO10 := Lib.hid ho10
    obtain ⟨o10, c10, hv10, _⟩ := OwnG.len ho10
    subst hv10
    rw [List.length_append, List.length_singleton, HRL.out] at hr10 HO10
    clear ka ho10 hg10
    unfold stC at hr10
    go_wp2_with (at_builtin; refine wpList_app_run _ _ 47 _ _ rfl rfl rfl rfl hr10 ?_)
    go_roundw
    case rel => exact ⟨k + 1, rs ++ [⟨kd, o7, lits.length, c7⟩], by omega, by go_num, by simp [HRL.out], HO10.out, K10.out⟩
    case measure => simp [intOf]; omega
  case neg =>
    have hlt : ¬ (k : Int) < (m : Int) := by omega
    have HBr := HB1.out.keep KR.out
    obtain ⟨x0, x1, x2, x3, x4, x5, f0, f1, f2, f3, f4, f5, xl⟩ := vdC_cells HBr
    have HB3 : Hid (Blk (wr.setCell ⟨b1, 4, none⟩ (.slice ro k rc)) b1 (vdC st (.slice oh nh ch) (.slice o3 n3 c3) (.slice ro k rc) used)) := Lib.hid (HBr.set 4 _)
    have hne : b1 + 1 ≠ b1 := by omega
    have HB3' : Hid (Blk (wr.setCell ⟨b1, 4, none⟩ (.slice ro k rc)) (b1 + 1) (vdC 0 (.slice none 0 0) (.slice none 0 0) (.slice none 0 0) 0)) := Lib.hid ((HB2.out.keep KR.out).setOther 4 _ hne)
    have K3 : Hid (Keep NoS w (wr.setCell ⟨b1, 4, none⟩ (.slice ro k rc))) := Lib.hid (keep_at (K2.out.both KR.out) _ (by rw [← HG1.out]; exact Nat.le_refl _))
    clear HBr
    go_upto_region 9 with fail
    clear x0 x1 x2 x3 x4 x5 f0 f1 f2 f3 f4 f5 xl
    generalize wr.setCell ⟨b1, 4, none⟩ (.slice ro k rc) = w3 at *
    obtain ⟨x0, x1, x2, x3, x4, x5, f0, f1, f2, f3, f4, f5, xl⟩ := vdC_cells HB3.out
    have CB := Lib.hid (CB.out w3 K3.out)
    go_wp2_with fail
    refine CB.out.mono ?_
    rintro e w4 ⟨v4, rfl, ho4, hk4⟩
    obtain ⟨o4, c4, hv4, _⟩ := OwnG.len ho4
    subst hv4
    have HB4 := Lib.hid (HB3.out.keep hk4)
    have HB4' := Lib.hid (HB3'.out.keep hk4)
    have K4 := Lib.hid (K3.out.both hk4)
    clear ho4 hk4 CB x0 x1 x2 x3 x4 x5 f0 f1 f2 f3 f4 f5 xl
    obtain ⟨x0, x1, x2, x3, x4, x5, f0, f1, f2, f3, f4, f5, xl⟩ := vdC_cells HB4.out
    obtain ⟨y0, y1, y2, y3, y4, y5, g0, g1, g2, g3, g4, g5, yl⟩ := vdC_cells HB4'.out
    go_wp2
    refine bodyPost_ret (by simp [results, Tryz.results27, go_sem, x0, x1, x2, x3, x4, x5, y0, y1, y2, y3, y4, y5, xl, yl]; rfl) rfl ?_
    have hg := HG1.out
    exact ⟨⟨_, _, _, _, _, _, _, _, _, rfl⟩, keep_at (keep_at (keep_at (keep_at (keep_at (keep_at (keep_at K4.out _ (by omega)) _ (by omega)) _ (by omega)) _ (by omega)) _ (by omega)) _ (by omega)) _ (by omega)⟩
end Go.Proofs.YtnndmdfjdodiiaaGreat
