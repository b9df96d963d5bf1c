/- Package solve: parts and numbers where there are no rows. -/
import Derived.Test.YtnndmdfjdodiiaaGreatTtSd
import Derived.Test.YtnndmdfjdodiiaaGreatTtCu
namespace Go.Proofs.YtnndmdfjdodiiaaGreat
open Go.ChangeShapes Go.WideShapes Go.RowKit Go.Maps
set_option linter.unusedVariables false
set_option linter.unusedSimpArgs false

theorem at_kind {n : Nat} {a : Sv.At} (h : AtOK n a) : (a.kind != 3) = true := by
  rw [bne_iff_ne]
  rcases h with ⟨h, _⟩ | ⟨h, _⟩ <;> rw [h] <;> decide
set_option maxRecDepth 100000 in
set_option maxHeartbeats 8000000 in
theorem parts_any (w0 w : World) (b : Nat) (L : FmL) (f : Sv.Frm) (fuel : Int) (M : SvM) (s : Sv.SvS) (vh : Value) (h : SvL w0 w b L f fuel M s) (hok : FmOK f) :
    Calls Tryz.prog 54 #[.pointer (some ⟨b, 0, none⟩), vh] w fun e w' => e = .returned (.bool false) ∧ Keep NoS w w' := by
  have HOK := Lib.hid hok.a
  have hm20 : f.atoms.length ≤ 20 := hok.n
  have CC := Lib.hid (cloneA_any w (.slice M.oA f.atoms.length M.cA) f.atoms (OwnG.src atC_len h.a) (by omega))
  obtain ⟨y0, y1, y2, y3, y4, y5, y6, y7, y8, y9, yl⟩ := svC_cells h.bk
  obtain ⟨m, hm⟩ : ∃ m, f.atoms.length = m := ⟨_, rfl⟩
  have HM := Lib.hid hm
  rw [hm] at y4 hm20 CC
  clear h hok hm y0 y1 y2 y3 y5 y6 y7 y8 y9
  go_enter Tryz.func54, Tryz.ntmps54
  go_wp2_with fail
  refine CC.out.mono ?_
  rintro e w2 ⟨v2, rfl, ho2, hk2⟩
  have HA := Lib.hid (OwnG.atoms ho2)
  have K2 := Lib.hid hk2
  obtain ⟨o2, c2, hv2, _⟩ := OwnG.len ho2
  rw [HM.out] at hv2
  subst hv2
  clear ho2 hk2 CC y4 yl
  go_wp2
  go_loopw [19, 5] (fun s t wr => ∃ k : Nat, k ≤ m ∧ s = .int .i64 k ∧ t = .bool false ∧ Keep NoS w2 wr) (fun s _ _ => (m - intOf s).toNat)
  case atStart => exact ⟨0, by omega, rfl, rfl, by (repeat' (with_reducible first | assumption | exact HK.out | exact keR | refine keA ?_ | refine keS ?_ fun h => absurd h (by omega) | refine keN ?_ | refine keD ?_))⟩
  case round =>
  obtain ⟨k, hk, rfl, rfl, hkr⟩ := hrel
  have KR := Lib.hid hkr
  clear hkr
  by_cases hkl : k < m
  case neg =>
    have hlt : ¬ (k : Int) < (m : Int) := by omega
    go_wp2
    go_ret
    exact ⟨rfl, K2.out.both KR.out⟩
  case pos =>
  have hlt : (k : Int) < (m : Int) := by omega
  have hkm : k < f.atoms.length := by rw [HM.out]; exact hkl
  obtain ⟨ba, fa, hoa, hba, p0, p1, p2, p3, p4, p5⟩ := (HA.out.keep KR.out).at hkm
  rw [hoa]
  have e1 := at_kind (HOK.out _ (List.getElem_mem hkm))
  have ka : Keep NoS wr (wr.alloc (.cells #[.int .i64 (f.atoms[k]).kind, .int .i64 (f.atoms[k]).a, .int .i64 (f.atoms[k]).b, .slice none 0 0, .int .i64 0, .int .i64 0] TAt)) := (Keep.refl _ _).alloc _
  have K6 := Lib.hid (KR.out.both ka)
  generalize f.atoms[k] = at1 at *
  obtain ⟨kd, xa, xb⟩ := at1
  simp only at p0 p1 p2 K6 e1
  clear ka
  go_wp2
  go_roundw
  case rel => exact ⟨k + 1, by omega, by go_num, rfl, K6.out⟩
  case measure => simp [intOf]; omega
set_option maxRecDepth 100000 in
set_option maxHeartbeats 8000000 in
theorem numbers_any (w0 w : World) (b : Nat) (L : FmL) (f : Sv.Frm) (fuel : Int) (M : SvM) (s : Sv.SvS) (vh : Value) (h : SvL w0 w b L f fuel M s) (hok : FmOK f) :
    Calls Tryz.prog 55 #[.pointer (some ⟨b, 0, none⟩), vh] w fun e w' => e = .returned (.tuple #[.slice none 0 0, .bool false, .bool true]) ∧ Keep NoS w w' := by
  have HOK := Lib.hid hok.a
  have hm20 : f.atoms.length ≤ 20 := hok.n
  have CS := fun w' => Lib.hid (search0_any w')
  have HA := Lib.hid (OwnG.atoms h.a)
  obtain ⟨y0, y1, y2, y3, y4, y5, y6, y7, y8, y9, yl⟩ := svC_cells h.bk
  have Y1 := Lib.hid y1
  have YL := Lib.hid yl
  obtain ⟨m, hm⟩ : ∃ m, f.atoms.length = m := ⟨_, rfl⟩
  have HM := Lib.hid hm
  rw [hm] at y4 hm20 HA
  clear h hok hm y0 y1 y2 y3 y5 y6 y7 y8 y9
  go_enter Tryz.func55, Tryz.ntmps55
  go_wp2
  clear y4 yl
  go_loopw [21, 7, 8] (fun s t u wr => ∃ k : Nat, k ≤ m ∧ s = .int .i64 k ∧ t = .slice none 0 0 ∧ u = .slice none 0 0 ∧ Keep NoS w wr) (fun s _ _ _ => (m - intOf s).toNat)
  case atStart => exact ⟨0, by omega, rfl, rfl, rfl, by (repeat' (with_reducible first | assumption | exact HK.out | exact keR | refine keA ?_ | refine keS ?_ fun h => absurd h (by omega) | refine keN ?_ | refine keD ?_))⟩
  case round =>
  obtain ⟨k, hk, rfl, rfl, rfl, hkr⟩ := hrel
  have KR := Lib.hid hkr
  clear hkr
  by_cases hkl : k < m
  case neg =>
    have hlt : ¬ (k : Int) < (m : Int) := by omega
    have y1 := (KR.out.cell YL.out).trans Y1.out
    have yl := Nat.lt_of_lt_of_le YL.out KR.out.size
    go_wp2_with fail
    refine (CS _).out.mono ?_
    rintro e w3 ⟨rfl, hk3⟩
    have K3 := Lib.hid (KR.out.both hk3)
    clear hk3 CS y1 yl
    go_wp2
    refine bodyPost_ret (by simp [results, Tryz.results55, go_sem]; rfl) rfl ?_
    exact ⟨rfl, K3.out⟩
  case pos =>
  have hlt : (k : Int) < (m : Int) := by omega
  have hkm : k < f.atoms.length := by rw [HM.out]; exact hkl
  obtain ⟨ba, fa, hoa, hba, p0, p1, p2, p3, p4, p5⟩ := (HA.out.keep KR.out).at hkm
  rw [hoa]
  have e1 := at_kind (HOK.out _ (List.getElem_mem hkm))
  have ka : Keep NoS wr (wr.alloc (.cells #[.int .i64 (f.atoms[k]).kind, .int .i64 (f.atoms[k]).a, .int .i64 (f.atoms[k]).b, .slice none 0 0, .int .i64 0, .int .i64 0] TAt)) := (Keep.refl _ _).alloc _
  have K6 := Lib.hid (KR.out.both ka)
  generalize f.atoms[k] = at1 at *
  obtain ⟨kd, xa, xb⟩ := at1
  simp only at p0 p1 p2 K6 e1
  clear ka CS
  go_wp2
  go_roundw
  case rel => exact ⟨k + 1, by omega, by go_num, rfl, rfl, K6.out⟩
  case measure => simp [intOf]; omega
end Go.Proofs.YtnndmdfjdodiiaaGreat
