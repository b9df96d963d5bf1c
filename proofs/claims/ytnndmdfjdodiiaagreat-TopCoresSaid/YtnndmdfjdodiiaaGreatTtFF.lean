/- Package unit: Negated, Assume, Falls. Package slices: IndexFunc and ContainsFunc, for whatever function. Package cnf. Package cnf: Check. -/
import Derived.Test.YtnndmdfjdodiiaaGreatTtBB
import Derived.Test.YtnndmdfjdodiiaaGreatTtPP
namespace Go.Proofs.YtnndmdfjdodiiaaGreat
open Go.ChangeShapes Go.WideShapes Go.RowKit Go.Maps
set_option linter.unusedVariables false
set_option linter.unusedSimpArgs false

theorem LTr.offW {w w' : World} {b gm : Nat} {vc vl vw : Value} {t : Cd.Tr} (h : LTr w w' b gm vc vl vw t) : OffT (fun k => k < w.heap.size) w' b gm vl vw := by
  refine ⟨fun k hk => Nat.lt_of_lt_of_le hk h.k.size, fun k hk hS => ?_⟩
  have hk : k < w.heap.size := hk
  rcases hS with e | e | e | e
  · have := h.hb; omega
  · have := h.hm; omega
  · have := h.l.block k e; omega
  · have := h.y.block k e; omega
theorem negF_take {l : List Int} {k : Nat} (hk : k < l.length) : Sv.negF (l.take (k + 1)) = Sv.negF (l.take k) ++ [-l[k]] := by
  unfold Sv.negF
  rw [List.take_succ_eq_append_getElem hk, List.map_append]; rfl
set_option maxRecDepth 100000 in
theorem negated_any (w : World) (v : Value) (l : List Int) (h : IsInts w v l) (hl : l.length ≤ 1000) (hn : ∀ x ∈ l, I64 (-x)) :
    Calls Tryz.prog 108 #[v] w fun e w' => ∃ v', e = .returned v' ∧ OwnI w' w.heap.size v' (Sv.negF l) ∧ Keep NoS w w' := by
  have H := Lib.hid h
  have HN := Lib.hid hn
  obtain ⟨oa, ca, rfl, _⟩ := h.len
  clear h hn
  go_enter Tryz.func108, Tryz.ntmps108
  go_wp2
  go_loopw [8, 3] (fun s a wr => ∃ k : Nat, k ≤ l.length ∧ s = .int .i64 k ∧ OwnI wr w.heap.size a (Sv.negF (l.take k)) ∧ Keep NoS w wr) (fun s _ _ => (l.length - intOf s).toNat)
  case atStart => exact ⟨0, by omega, rfl, OwnI.nil _ _, by (repeat' (with_reducible first | assumption | exact HK.out | exact keR | refine keA ?_ | refine keS ?_ fun h => absurd h (by omega) | refine keN ?_ | refine keD ?_))⟩
  case round =>
  obtain ⟨k, hk, rfl, ho, hkr⟩ := hrel
  have HO := Lib.hid ho
  have KR := Lib.hid hkr
  obtain ⟨ao, ac, rfl⟩ := ho.len
  clear ho hkr
  by_cases hkl : k < l.length
  case neg =>
    have hlt : ¬ (k : Int) < (l.length : Int) := by omega
    have HE : Hid (OwnI wr w.heap.size (.slice ao (Sv.negF (l.take k)).length ac) (Sv.negF l)) := Lib.hid (by have := HO.out; rwa [List.take_of_length_le (show l.length ≤ k by omega)] at this ⊢)
    clear HO
    go_wp2
    go_ret
    exact ⟨_, rfl, HE.out, KR.out⟩
  case pos =>
  have hlt : (k : Int) < (l.length : Int) := by omega
  obtain ⟨bc, fc, cap, hv, hbc, p0⟩ := H.out.at hkl
  injection hv with q1 q2 q3
  clear q2
  subst q1
  subst q3
  have p0 := (KR.out.cell hbc).trans p0
  have hbr := Nat.lt_of_lt_of_le hbc KR.out.size
  have hx1 := H.out.all _ (List.getElem_mem hkl)
  have hx2 := HN.out _ (List.getElem_mem hkl)
  have HT := Lib.hid (negF_take hkl)
  have hnl : (Sv.negF (l.take k)).length = k := by simp [Sv.negF]; omega
  generalize l[k] = x at *
  generalize Sv.negF (l.take k) = acc at *
  have ka : Keep NoS wr (wr.alloc (.cells #[.int .i64 (-x)] TI)) := (Keep.refl _ _).alloc _
  have KA := Lib.hid (KR.out.both ka)
  obtain ⟨v', w', hr, ho', hg, _⟩ := app_oneI (HO.out.keep ka) (b := wr.heap.size) (blk_at _ _ rfl) (by omega) KA.out.size
  have HO' := Lib.hid ho'
  have K' := Lib.hid (KA.out.grown hg fun j hj => HO.out.block j hj)
  clear ka ho' hg HO
  unfold I64 at hx1 hx2
  go_wp2_with (at_builtin; refine wpList_app_run _ _ 22 _ _ rfl rfl rfl rfl hr ?_)
  go_roundw
  case rel => exact ⟨k + 1, by omega, by go_num, by rw [HT.out]; exact HO'.out, K'.out⟩
  case measure => simp [intOf]; omega
set_option maxRecDepth 100000 in
theorem assume_any (vars : Nat) (w : World) (oc : Option Addr) (cc : Nat) (cls : List (List Int)) (va : Value) (A : List Int) (hc : IsCls w (.slice oc cls.length cc) cls) (ha : IsInts w va A) (hok : Cd.ClsOK vars cls) (hv : vars ≤ 1000) (hg : Cd.GoodT vars A) :
    Calls Tryz.prog 131 #[.slice oc cls.length cc, va] w fun e w' => ∃ b, e = .returned (.tuple #[.pointer (some ⟨b, 0, none⟩), .int .i64 (Cd.runF (vars + 1) cls ⟨A, A.map fun _ => -1⟩).2]) ∧ Keep NoS w w' := by
  have HC := Lib.hid hc
  have HA := Lib.hid ha
  have HOK := Lib.hid hok
  have HG := Lib.hid hg
  have hal := hg.le
  have CN := Lib.hid (new_any w oc cls.length cc)
  obtain ⟨oa, ca, rfl, _⟩ := ha.len
  clear hc ha hok hg
  go_enter Tryz.func131, Tryz.ntmps131
  go_wp2_with fail
  refine CN.out.mono ?_
  rintro e w1 ⟨b, gm, rfl, hl⟩
  have HL := Lib.hid hl
  clear hl CN
  go_wp2
  go_loopw [13] (fun s wr => ∃ (k : Nat) (vl vw : Value), k ≤ A.length ∧ s = .int .i64 k ∧ LTr w wr b gm (.slice oc cls.length cc) vl vw ⟨A.take k, (A.take k).map fun _ => -1⟩) (fun s _ => (A.length - intOf s).toNat)
  case atStart => exact ⟨0, _, _, by omega, rfl, HL.out⟩
  case round =>
  obtain ⟨k, vl, vw, hk, rfl, hl⟩ := hrel
  have HL := Lib.hid hl
  clear hl
  by_cases hkl : k < A.length
  case neg =>
    have hlt : ¬ (k : Int) < (A.length : Int) := by omega
    have HL2 : Hid (LTr w wr b gm (.slice oc cls.length cc) vl vw ⟨A, A.map fun _ => -1⟩) := Lib.hid (by have := HL.out; rwa [List.take_of_length_le (show A.length ≤ k by omega)] at this)
    have CR := Lib.hid (run_any _ vars w wr b gm oc cc vl vw _ cls (vars + 1) HL2.out HL2.out.offW (HC.out.inn.keep HL2.out.k) HOK.out hv HG.out (by simp) (by simp only; omega))
    clear HL
    go_wp2_with fail
    refine CR.out.mono ?_
    rintro e w3 ⟨rfl, vl3, vw3, hl3, ht3⟩
    have K3 := Lib.hid hl3.k
    clear hl3 ht3 CR
    go_wp2
    refine bodyPost_ret (by simp [results, Tryz.results131, go_sem]; rfl) rfl ?_
    exact ⟨b, rfl, K3.out⟩
  case pos =>
  have hlt : (k : Int) < (A.length : Int) := by omega
  obtain ⟨bc, fc, cap, hv', hbc, p0⟩ := HA.out.at hkl
  injection hv' with q1 q2 q3
  clear q2
  subst q1
  subst q3
  have p0 := (HL.out.k.cell hbc).trans p0
  have hbr := Nat.lt_of_lt_of_le hbc HL.out.k.size
  have hx1 := HA.out.all _ (List.getElem_mem hkl)
  have CA := Lib.hid (add_any w wr b gm _ _ _ _ HL.out A[k] (-1) hx1 (by simp; omega) (by simp; omega))
  have HT : Hid (A.take (k + 1) = A.take k ++ [A[k]]) := Lib.hid (List.take_succ_eq_append_getElem hkl)
  have HT2 : Hid ((A.take (k + 1)).map (fun _ => (-1 : Int)) = (A.take k).map (fun _ => (-1 : Int)) ++ [-1]) := Lib.hid (by rw [HT.out, List.map_append]; rfl)
  generalize A[k] = x at *
  clear hx1
  go_wp2_with fail
  refine CA.out.mono ?_
  rintro e w3 ⟨rfl, vl3, vw3, hl3, ht3⟩
  have HL3 := Lib.hid hl3
  clear hl3 ht3 CA
  go_wp2
  go_roundw
  case rel => exact ⟨k + 1, vl3, vw3, by omega, by go_num, by rw [HT2.out, HT.out]; exact HL3.out⟩
  case measure => simp [intOf]; omega
set_option maxRecDepth 100000 in
theorem falls_any (vars : Nat) (w : World) (oc : Option Addr) (cc : Nat) (cls : List (List Int)) (va : Value) (c : List Int) (hc : IsCls w (.slice oc cls.length cc) cls) (ha : IsInts w va c) (hok : Cd.ClsOK vars cls) (hv : vars ≤ 1000) (hcok : (c.map Int.natAbs).Nodup ∧ ∀ l ∈ c, l ≠ 0 ∧ l.natAbs ≤ vars) :
    Calls Tryz.prog 94 #[.slice oc cls.length cc, va] w fun e w' => e = .returned (.bool (Sv.fallsF vars cls c)) ∧ Keep NoS w w' := by
  have hg := Sv.neg_good hcok
  have hgl := hg.le
  have hl1 : c.length ≤ 1000 := by unfold Sv.negF at hgl; rw [List.length_map] at hgl; omega
  have HC := Lib.hid hc
  have CN := Lib.hid (negated_any w va c ha hl1 fun x hx => by have := (hcok.2 x hx).2; unfold I64; omega)
  have CA := Lib.hid (fun w' (k : Keep NoS w w') va' (h : IsInts w' va' (Sv.negF c)) => assume_any vars w' oc cc cls va' (Sv.negF c) (hc.keep k) h hok hv hg)
  have HG := Lib.hid (fun x (hx : x ∈ Sv.negF c) => (hg.2 x hx).2)
  have HE : Hid ((Sv.negF c).map (fun _ => (-1 : Int)) = c.map fun _ => (-1 : Int)) := Lib.hid (by simp [Sv.negF])
  obtain ⟨oa, ca, rfl, _⟩ := ha.len
  have HF : Hid (Sv.fallsF vars cls c = decide (0 ≤ (Cd.runF (vars + 1) cls ⟨Sv.negF c, c.map fun _ => -1⟩).2)) := Lib.hid (by
    unfold Sv.fallsF
    refine decide_eq_decide.2 ?_
    have R := Cd.run_told hok (vars + 1) ⟨Sv.negF c, c.map fun _ => -1⟩ hg (Sv.why_neg cls c) (by omega)
    constructor
    · intro h
      obtain ⟨k, hk, _⟩ := R.bad h
      omega
    · intro h e
      omega)
  rw [HF.out]
  rw [HE.out] at CA
  generalize (Cd.runF (vars + 1) cls ⟨Sv.negF c, c.map fun _ => -1⟩).2 = z at *
  generalize Sv.negF c = nc at *
  clear hc ha hok hcok hg hgl HF HE
  go_enter Tryz.func94, Tryz.ntmps94
  go_wp2_with fail
  refine CN.out.mono ?_
  rintro e w1 ⟨v', rfl, ho, hk⟩
  have HI := Lib.hid (ho.ints fun x hx => by have := HG.out x hx; unfold I64; omega)
  have K1 := Lib.hid hk
  obtain ⟨oa', ca', rfl⟩ := ho.len
  clear ho hk CN
  have CA := Lib.hid (CA.out w1 K1.out _ HI.out)
  go_wp2_with fail
  refine CA.out.mono ?_
  rintro e w2 ⟨b, rfl, hk⟩
  have K2 := Lib.hid (K1.out.both hk)
  clear hk CA
  go_wp2
  go_ret
  exact ⟨rfl, K2.out⟩
end Go.Proofs.YtnndmdfjdodiiaaGreat

namespace Go.Proofs.YtnndmdfjdodiiaaGreat
open Go.ChangeShapes Go.WideShapes Go.RowKit Go.Maps
set_option linter.unusedVariables false
set_option linter.unusedSimpArgs false

/-- The place of the first that is so, or -1. -/
def idxP {α : Type} (p : α → Bool) : List α → Nat → Int
  | [], _ => -1
  | q :: l, i => if p q = true then i else idxP p l (i + 1)
theorem idxP_in {α : Type} {p : α → Bool} {l : List α} {k i : Nat} (hk : k < l.length) (h : p l[k] = false) : idxP p (l.drop k) i = idxP p (l.drop (k + 1)) (i + 1) := by
  rw [List.drop_eq_getElem_cons hk, idxP, if_neg (by rw [h]; decide)]
theorem idxP_out {α : Type} {p : α → Bool} {l : List α} {k i : Nat} (hk : k < l.length) (h : p l[k] = true) : idxP p (l.drop k) i = (i : Int) := by
  rw [List.drop_eq_getElem_cons hk, idxP, if_pos h]
theorem idxP_end {α : Type} {p : α → Bool} {l : List α} {k i : Nat} (hk : l.length ≤ k) : idxP p (l.drop k) i = -1 := by
  rw [List.drop_eq_nil_of_le hk]; rfl
theorem idxP_any {α : Type} {p : α → Bool} : ∀ {l : List α} {i : Nat}, decide (0 ≤ idxP p l i) = l.any p
  | [], _ => rfl
  | q :: l, i => by
    unfold idxP
    rw [List.any_cons]
    by_cases h : p q = true
    · rw [if_pos h, h]; simp
    · rw [if_neg h, idxP_any]; simp [h]

set_option maxRecDepth 100000 in
set_option maxHeartbeats 8000000 in
theorem intIndex_any (f : Nat) (cp : Array Value) (hcf : ∀ a w, Sem.run Tryz.prog (callFunc f a) w = .ok (.enter f a) w) (p : Int → Bool) (w : World) (v : Value) (l : List (Int)) (h : IsInts w v l) (hc : ∀ w', Keep NoS w w' → ∀ x ∈ l, Calls Tryz.prog f (#[.int .i64 x] ++ cp) w' fun e w'' => e = .returned (.bool (p x)) ∧ Keep NoS w' w'') :
    Calls Tryz.prog 66 #[v, .func (.func f) #[] cp] w fun e w' => e = .returned (.int .i64 (idxP p l 0)) ∧ Keep NoS w w' := by
  have HN := Lib.hid h
  have HC := Lib.hid hc
  obtain ⟨oa, ca, rfl, hma⟩ : ∃ oa cap, v = .slice oa l.length cap ∧ l.length ≤ 9223372036854775807 := by
    obtain ⟨oa, ca, e, hq⟩ := h.len
    exact ⟨oa, ca, e, by first | (unfold maxLen at hq; omega) | (obtain ⟨q1, q2⟩ := hq; unfold maxLen at q2; omega)⟩
  clear h hc
  go_enter Tryz.func66, Tryz.ntmps66
  go_wp2
  go_loopw [8] (fun s wr => ∃ k : Nat, k ≤ l.length ∧ s = .int .i64 k ∧ idxP p l 0 = idxP p (l.drop k) k ∧ Keep NoS w wr) (fun s _ => (l.length - intOf s).toNat)
  case atStart => exact ⟨0, by omega, rfl, rfl, Keep.refl _ _⟩
  case round =>
    obtain ⟨k, hk, rfl, hf, hkr⟩ := hrel
    have HF := Lib.hid hf
    have HKR := Lib.hid hkr
    clear hf hkr
    by_cases hkl : k < l.length
    · have hlt : (k : Int) < (l.length : Int) := by omega
      obtain ⟨b, o, cap, hv, hbl, p0⟩ := (HN.out.keep HKR.out).at hkl
      injection hv with q1 q2 q3
      clear q2
      subst q1
      subst q3
      have CC := Lib.hid (HC.out wr HKR.out l[k] (List.getElem_mem hkl))
      have hIN := fun h => idxP_in (p := p) (i := k) hkl h
      have hOUT := fun h => idxP_out (p := p) (i := k) hkl h
      generalize p l[k] = bq at *
      generalize l[k] = x at *
      cases bq
      · have HNX := Lib.hid (HF.out.trans (hIN rfl))
        clear hIN hOUT HF
        go_wp2_with fail
        refine (CC.out).mono ?_
        rintro e w4 ⟨rfl, hk4⟩
        have K4 := Lib.hid (HKR.out.both hk4)
        clear hk4
        go_wp2
        go_roundw
        case rel => exact ⟨k + 1, by omega, by go_num, HNX.out, K4.out⟩
        case measure => simp [intOf]; omega
      · have HNX := Lib.hid (HF.out.trans (hOUT rfl))
        clear hIN hOUT HF
        go_wp2_with fail
        refine (CC.out).mono ?_
        rintro e w4 ⟨rfl, hk4⟩
        have K4 := Lib.hid (HKR.out.both hk4)
        clear hk4
        go_wp2
        go_ret
        exact ⟨by rw [HNX.out]; rfl, K4.out⟩
    · have hlt : ¬ (k : Int) < (l.length : Int) := by omega
      have HNX := Lib.hid (HF.out.trans (idxP_end (i := k) (by omega)))
      clear HF
      go_wp2
      go_ret
      exact ⟨by rw [HNX.out]; rfl, HKR.out⟩

set_option maxRecDepth 100000 in
theorem intAny_any (f : Nat) (cp : Array Value) (hcf : ∀ a w, Sem.run Tryz.prog (callFunc f a) w = .ok (.enter f a) w) (p : Int → Bool) (w : World) (v : Value) (l : List (Int)) (h : IsInts w v l) (hc : ∀ w', Keep NoS w w' → ∀ x ∈ l, Calls Tryz.prog f (#[.int .i64 x] ++ cp) w' fun e w'' => e = .returned (.bool (p x)) ∧ Keep NoS w' w'') :
    Calls Tryz.prog 40 #[v, .func (.func f) #[] cp] w fun e w' => e = .returned (.bool (l.any p)) ∧ Keep NoS w w' := by
  have CC := fun w' (k : Keep NoS w w') => Lib.hid (intIndex_any f cp hcf p w' v l (h.keep k) fun w'' k' => hc w'' (k.both k'))
  rw [← idxP_any (p := p) (l := l) (i := 0)]
  obtain ⟨oa, ca, rfl, _⟩ := h.len
  generalize idxP p l 0 = z at *
  clear h hc
  go_enter Tryz.func40, Tryz.ntmps40
  go_wp2_with fail
  refine (CC _ (by (repeat' (with_reducible first | assumption | exact HK.out | exact keR | refine keA ?_ | refine keS ?_ fun h => absurd h (by omega) | refine keN ?_ | refine keD ?_)))).out.mono ?_
  rintro e w1 ⟨rfl, hk1⟩
  have K1 := Keep.both (by (repeat' (with_reducible first | assumption | exact HK.out | exact keR | refine keA ?_ | refine keS ?_ fun h => absurd h (by omega) | refine keN ?_ | refine keD ?_))) hk1
  go_wp2
  go_ret
  exact ⟨rfl, K1⟩

set_option maxRecDepth 100000 in
set_option maxHeartbeats 8000000 in
theorem clsIndex_any (f : Nat) (cp : Array Value) (hcf : ∀ a w, Sem.run Tryz.prog (callFunc f a) w = .ok (.enter f a) w) (p : List Int → Bool) (w : World) (v : Value) (l : List (List Int)) (h : IsCls w v l) (hc : ∀ w', Keep NoS w w' → ∀ x ∈ l, ∀ sv, IsInts w' sv x → Calls Tryz.prog f (#[sv] ++ cp) w' fun e w'' => e = .returned (.bool (p x)) ∧ Keep NoS w' w'') :
    Calls Tryz.prog 99 #[v, .func (.func f) #[] cp] w fun e w' => e = .returned (.int .i64 (idxP p l 0)) ∧ Keep NoS w w' := by
  have HN := Lib.hid h
  have HC := Lib.hid hc
  obtain ⟨oa, ca, rfl, hma⟩ : ∃ oa cap, v = .slice oa l.length cap ∧ l.length ≤ 9223372036854775807 := by
    obtain ⟨oa, ca, e, hq⟩ := h.len
    exact ⟨oa, ca, e, by first | (unfold maxLen at hq; omega) | (obtain ⟨q1, q2⟩ := hq; unfold maxLen at q2; omega)⟩
  clear h hc
  go_enter Tryz.func99, Tryz.ntmps99
  go_wp2
  go_loopw [8] (fun s wr => ∃ k : Nat, k ≤ l.length ∧ s = .int .i64 k ∧ idxP p l 0 = idxP p (l.drop k) k ∧ Keep NoS w wr) (fun s _ => (l.length - intOf s).toNat)
  case atStart => exact ⟨0, by omega, rfl, rfl, Keep.refl _ _⟩
  case round =>
    obtain ⟨k, hk, rfl, hf, hkr⟩ := hrel
    have HF := Lib.hid hf
    have HKR := Lib.hid hkr
    clear hf hkr
    by_cases hkl : k < l.length
    · have hlt : (k : Int) < (l.length : Int) := by omega
      obtain ⟨b, o, oc, cc, rfl, hbl, p0, hi, _⟩ := (HN.out.keep HKR.out).at hkl
      have CC := Lib.hid (HC.out wr HKR.out l[k] (List.getElem_mem hkl) _ hi)
      clear hi
      have hIN := fun h => idxP_in (p := p) (i := k) hkl h
      have hOUT := fun h => idxP_out (p := p) (i := k) hkl h
      generalize p l[k] = bq at *
      generalize l[k] = x at *
      cases bq
      · have HNX := Lib.hid (HF.out.trans (hIN rfl))
        clear hIN hOUT HF
        go_wp2_with fail
        refine (CC.out).mono ?_
        rintro e w4 ⟨rfl, hk4⟩
        have K4 := Lib.hid (HKR.out.both hk4)
        clear hk4
        go_wp2
        go_roundw
        case rel => exact ⟨k + 1, by omega, by go_num, HNX.out, K4.out⟩
        case measure => simp [intOf]; omega
      · have HNX := Lib.hid (HF.out.trans (hOUT rfl))
        clear hIN hOUT HF
        go_wp2_with fail
        refine (CC.out).mono ?_
        rintro e w4 ⟨rfl, hk4⟩
        have K4 := Lib.hid (HKR.out.both hk4)
        clear hk4
        go_wp2
        go_ret
        exact ⟨by rw [HNX.out]; rfl, K4.out⟩
    · have hlt : ¬ (k : Int) < (l.length : Int) := by omega
      have HNX := Lib.hid (HF.out.trans (idxP_end (i := k) (by omega)))
      clear HF
      go_wp2
      go_ret
      exact ⟨by rw [HNX.out]; rfl, HKR.out⟩

set_option maxRecDepth 100000 in
theorem clsAny_any (f : Nat) (cp : Array Value) (hcf : ∀ a w, Sem.run Tryz.prog (callFunc f a) w = .ok (.enter f a) w) (p : List Int → Bool) (w : World) (v : Value) (l : List (List Int)) (h : IsCls w v l) (hc : ∀ w', Keep NoS w w' → ∀ x ∈ l, ∀ sv, IsInts w' sv x → Calls Tryz.prog f (#[sv] ++ cp) w' fun e w'' => e = .returned (.bool (p x)) ∧ Keep NoS w' w'') :
    Calls Tryz.prog 61 #[v, .func (.func f) #[] cp] w fun e w' => e = .returned (.bool (l.any p)) ∧ Keep NoS w w' := by
  have CC := fun w' (k : Keep NoS w w') => Lib.hid (clsIndex_any f cp hcf p w' v l (h.keep k) fun w'' k' => hc w'' (k.both k'))
  rw [← idxP_any (p := p) (l := l) (i := 0)]
  obtain ⟨oa, ca, rfl, _⟩ := h.len
  generalize idxP p l 0 = z at *
  clear h hc
  go_enter Tryz.func61, Tryz.ntmps61
  go_wp2_with fail
  refine (CC _ (by (repeat' (with_reducible first | assumption | exact HK.out | exact keR | refine keA ?_ | refine keS ?_ fun h => absurd h (by omega) | refine keN ?_ | refine keD ?_)))).out.mono ?_
  rintro e w1 ⟨rfl, hk1⟩
  have K1 := Keep.both (by (repeat' (with_reducible first | assumption | exact HK.out | exact keR | refine keA ?_ | refine keS ?_ fun h => absurd h (by omega) | refine keN ?_ | refine keD ?_))) hk1
  go_wp2
  go_ret
  exact ⟨rfl, K1⟩

theorem all_in {α : Type} {q : α → α → Bool} {l m : List α} {k : Nat} (hk : k < l.length) (hk' : k < m.length) : (List.zip (l.drop k) (m.drop k)).all (fun p => q p.1 p.2) = (q l[k] m[k] && (List.zip (l.drop (k + 1)) (m.drop (k + 1))).all (fun p => q p.1 p.2)) := by
  rw [List.drop_eq_getElem_cons hk, List.drop_eq_getElem_cons hk', List.zip_cons_cons, List.all_cons]
end Go.Proofs.YtnndmdfjdodiiaaGreat

namespace Go.Proofs.YtnndmdfjdodiiaaGreat
open Go.ChangeShapes Go.WideShapes Go.RowKit Go.Maps
set_option linter.unusedVariables false
set_option linter.unusedSimpArgs false

theorem var_any (w : World) (x : Int) (h1 : I64 x) (h2 : I64 (-x)) : Calls Tryz.prog 77 #[.int .i64 x] w fun e w' => e = .returned (.int .i64 (x.natAbs : Int)) ∧ w' = w := by
  unfold I64 at h1 h2
  by_cases hx : x < -x
  · have e : (x.natAbs : Int) = -x := by omega
    rw [e]
    clear e
    go_enter Tryz.func77, Tryz.ntmps77
    go_wp2
    go_ret
    exact ⟨rfl, rfl⟩
  · have e : (x.natAbs : Int) = x := by omega
    rw [e]
    clear e
    go_enter Tryz.func77, Tryz.ntmps77
    go_wp2
    go_ret
    exact ⟨rfl, rfl⟩
set_option maxRecDepth 100000 in
theorem bad1_any (w : World) (x y : Int) (b : Nat) (hb : w.cell? ⟨b, 0, none⟩ = some (.int .i64 x)) (hl : b < w.heap.size) (h1 : I64 x) (h2 : I64 (-x)) (h3 : I64 y) (h4 : I64 (-y)) :
    Calls Tryz.prog 119 #[.int .i64 y, .pointer (some ⟨b, 0, none⟩)] w fun e w' => e = .returned (.bool (decide (y.natAbs = x.natAbs))) ∧ Keep NoS w w' := by
  have CX := fun w => Lib.hid (var_any w x h1 h2)
  have CY := fun w => Lib.hid (var_any w y h3 h4)
  go_enter Tryz.func119, Tryz.ntmps119
  go_wp2
  go_quiet (first | exact (CY _).out.mono (by rintro e w1 ⟨rfl, rfl⟩; exact ⟨rfl, _, rfl⟩) | exact (CX _).out.mono (by rintro e w1 ⟨rfl, rfl⟩; exact ⟨rfl, _, rfl⟩))
  go_wp2
  go_ret
  exact ⟨congrArg (fun b : Bool => Ending.returned (.bool b)) (by rw [Bool.eq_iff_iff]; simp; omega), by (repeat' (with_reducible first | assumption | exact HK.out | exact keR | refine keA ?_ | refine keS ?_ fun h => absurd h (by omega) | refine keN ?_ | refine keD ?_))⟩
theorem IsInts.take {w : World} {oa : Option Addr} {n cap : Nat} {l : List Int} (h : IsInts w (.slice oa n cap) l) {k : Nat} (hk : k ≤ l.length) : IsInts w (.slice oa k cap) (l.take k) := by
  obtain ⟨oa', cap', hv, hm, hx, hc⟩ := h
  cases hv
  have hl : (l.take k).length = k := by rw [List.length_take]; omega
  refine ⟨oa, cap, by rw [hl], by omega, fun x hx' => hx x (List.mem_of_mem_take hx'), fun hne => ?_⟩
  obtain ⟨b, o, e, hb, hcell⟩ := hc (by rintro rfl; simp at hne)
  refine ⟨b, o, e, hb, fun i x hi => hcell i x ?_⟩
  rw [List.getElem?_take] at hi
  split at hi
  · exact hi
  · cases hi
def ValidC (vars : Nat) (c : List Int) : Prop := (c.map Int.natAbs).Nodup ∧ ∀ l ∈ c, l ≠ 0 ∧ l.natAbs ≤ vars
theorem ValidC.le {vars : Nat} {c : List Int} (h : ValidC vars c) : c.length ≤ vars := Cd.GoodT.le (vars := vars) h
theorem ValidC.fresh {vars : Nat} {c : List Int} (h : ValidC vars c) {k : Nat} (hk : k < c.length) : ((c.take k).any fun y => decide (y.natAbs = (c[k]).natAbs)) = false := by
  rw [List.any_eq_false]
  intro y hy e
  obtain ⟨i, hi⟩ := List.getElem?_of_mem hy
  rw [List.getElem?_take] at hi
  split at hi
  · rename_i hik
    have := Cd.GoodT.inj (vars := vars) h hi (List.getElem?_eq_getElem hk) (of_decide_eq_true e)
    omega
  · cases hi
theorem cfnBad1 (a : Array Value) (w : World) : Sem.run Tryz.prog (callFunc 119 a) w = .ok (.enter 119 a) w := by kernel_rfl
set_option maxRecDepth 100000 in
theorem bad_any (vars : Nat) (w : World) (oa : Option Addr) (ca : Nat) (c : List Int) (hc : IsInts w (.slice oa c.length ca) c) (hcap : c.length ≤ ca) (hok : ValidC vars c) (hv : vars ≤ 1000) :
    Calls Tryz.prog 80 #[.slice oa c.length ca, .int .i64 (vars : Int)] w fun e w' => e = .returned (.tuple #[.int .i64 0, .int .i64 0]) ∧ Keep NoS w w' := by
  have HC := Lib.hid hc
  have HOK := Lib.hid hok
  have hcl := hok.le
  clear hc hok
  go_enter Tryz.func80, Tryz.ntmps80
  go_wp2
  go_loopw [10] (fun s wr => ∃ k : Nat, k ≤ c.length ∧ s = .int .i64 k ∧ Keep NoS w wr) (fun s _ => (c.length - intOf s).toNat)
  case atStart => exact ⟨0, by omega, rfl, by (repeat' (with_reducible first | assumption | exact HK.out | exact keR | refine keA ?_ | refine keS ?_ fun h => absurd h (by omega) | refine keN ?_ | refine keD ?_))⟩
  case round =>
  obtain ⟨k, hk, rfl, hkr⟩ := hrel
  have KR := Lib.hid hkr
  clear hkr
  by_cases hkl : k < c.length
  case neg =>
    have hlt : ¬ (k : Int) < (c.length : Int) := by omega
    go_wp2
    refine bodyPost_ret (by simp [results, Tryz.results80, go_sem]; rfl) rfl ?_
    exact ⟨rfl, KR.out⟩
  case pos =>
  have hlt : (k : Int) < (c.length : Int) := by omega
  obtain ⟨bc, fc, cap, hv', hbc, p0⟩ := HC.out.at hkl
  injection hv' with q1 q2 q3
  clear q2
  subst q1
  subst q3
  have p0 := (KR.out.cell hbc).trans p0
  have hbr := Nat.lt_of_lt_of_le hbc KR.out.size
  have hx0 := HOK.out.2 _ (List.getElem_mem hkl)
  have HF := Lib.hid (HOK.out.fresh hkl)
  have h1 : I64 c[k] := by unfold I64; omega
  have h2 : I64 (-c[k]) := by unfold I64; omega
  have hxm : c[k] ∈ c := List.getElem_mem hkl
  generalize c[k] = x at *
  have hkc : k ≤ ca := by omega
  have hkI : (k : Int) ≤ (ca : Int) := by omega
  have e1 : (x == 0) = false := by rw [beq_eq_false_iff_ne]; exact hx0.1
  have e2 : ¬ x < -(vars : Int) := by omega
  have e3 : ¬ (vars : Int) < x := by omega
  have ka : Keep NoS wr (wr.alloc (.cells #[.int .i64 x] TI)) := (Keep.refl _ _).alloc _
  have KA := Lib.hid (KR.out.both ka)
  have HB : Hid ((wr.alloc (.cells #[.int .i64 x] TI)).heap[wr.heap.size]? = some (.cells #[.int .i64 x] TI (0, 0))) := Lib.hid (heap_alloc_at _ _ _ rfl)
  go_upto_region 4 with fail
  generalize wr.alloc (.cells #[.int .i64 x] TI) = w2 at *
  generalize wr.heap.size = b7 at *
  have m0 := cell_of_heap (o := 0) HB.out rfl
  have ml := lt_of_heap HB.out
  have CC := Lib.hid (intAny_any 119 #[.pointer (some ⟨b7, 0, none⟩)] cfnBad1 (fun y => decide (y.natAbs = x.natAbs)) w2 (.slice (some ⟨bc, fc, none⟩) k ca) (c.take k) ((HC.out.keep KA.out).take hk) fun w' kk y hy => by
    have hy0 := HOK.out.2 _ (List.mem_of_mem_take hy)
    exact bad1_any w' x y b7 ((kk.cell ml).trans m0) (Nat.lt_of_lt_of_le ml kk.size) h1 h2 (by unfold I64; omega) (by unfold I64; omega))
  rw [HF.out] at CC
  clear ka p0 hbr hbc
  go_wp2_with fail
  refine CC.out.mono ?_
  rintro e w3 ⟨rfl, hk3⟩
  have K3 := Lib.hid (KA.out.both hk3)
  clear hk3 CC m0 ml
  go_wp2
  go_roundw
  case rel => exact ⟨k + 1, by omega, by go_num, K3.out⟩
  case measure => simp [intOf]; omega
end Go.Proofs.YtnndmdfjdodiiaaGreat

namespace Go.Proofs.YtnndmdfjdodiiaaGreat
open Go.ChangeShapes Go.WideShapes Go.RowKit Go.Maps
set_option linter.unusedVariables false
set_option linter.unusedSimpArgs false

abbrev TFa : TypeId := 41
/-- Clauses that may be searched. -/
structure CnfOK (vars : Nat) (cls : List (List Int)) : Prop where
  v : vars ≤ 120
  n : cls.length ≤ 400
  c : ∀ c ∈ cls, ValidC vars c ∧ c.length ≤ 24
set_option maxRecDepth 100000 in
set_option maxHeartbeats 8000000 in
theorem check_any (vars : Nat) (w : World) (oc : Option Addr) (cc : Nat) (cls : List (List Int)) (hc : IsCls w (.slice oc cls.length cc) cls) (hok : CnfOK vars cls) :
    Calls Tryz.prog 49 #[.agg #[.int .i64 (vars : Int), .slice oc cls.length cc]] w fun e w' => e = .returned (.agg #[.int .i64 0, .int .i64 0]) ∧ Keep NoS w w' := by
  have HC := Lib.hid hc
  have HOK := Lib.hid hok
  have hv := hok.v
  have hn := hok.n
  obtain ⟨m, hm⟩ : ∃ m, cls.length = m := ⟨_, rfl⟩
  have HM := Lib.hid hm
  rw [hm] at HC hn ⊢
  have e1 : ¬ (vars : Int) < 0 := by omega
  have e2 : ¬ (120 : Int) < (vars : Int) := by omega
  have e3 : ¬ (400 : Int) < (m : Int) := by omega
  clear hc hok hm
  obtain ⟨w2, hw2⟩ : ∃ w2 : World, w2 = (w.alloc (.cells #[.int .i64 (vars : Int), .slice oc m cc] 62)).alloc (.cells #[.int .i64 0, .int .i64 0] TFa) := ⟨_, rfl⟩
  obtain ⟨b2, hb2⟩ : ∃ b2, b2 = w.heap.size + 1 := ⟨_, rfl⟩
  have K2 : Hid (Keep NoS w w2) := Lib.hid (by rw [hw2]; exact ((Keep.refl _ _).alloc _).alloc _)
  have HB1 : Hid (w2.heap[w.heap.size]? = some (.cells #[.int .i64 (vars : Int), .slice oc m cc] 62 (0, 0))) := Lib.hid (by rw [hw2, heap_alloc_old _ _ _ (by simp)]; exact heap_alloc_at _ _ _ rfl)
  have HB2 : Hid (w2.heap[b2]? = some (.cells #[.int .i64 0, .int .i64 0] TFa (0, 0))) := Lib.hid (by rw [hw2, hb2]; exact heap_alloc_at _ _ _ (by simp))
  go_enter Tryz.func49, Tryz.ntmps49
  go_upto_region 1 with fail
  rw [← hw2, ← hb2]
  have HLW : Hid (w.heap.size ≤ b2) := Lib.hid (by omega)
  clear hw2 hb2
  generalize hg1 : w.heap.size = b1 at *
  have HG1 := Lib.hid hg1
  clear hg1
  have x0 := cell_of_heap (o := 0) HB1.out rfl
  have x1 := cell_of_heap (o := 1) HB1.out rfl
  have xl := lt_of_heap HB1.out
  have y0 := cell_of_heap (o := 0) HB2.out rfl
  have yl := lt_of_heap HB2.out
  go_wp2
  go_loopw [26] (fun s wr => ∃ k : Nat, k ≤ m ∧ s = .int .i64 k ∧ Keep NoS w2 wr) (fun s _ => (m - intOf s).toNat)
  case atStart => exact ⟨0, by omega, rfl, by (repeat' (with_reducible first | assumption | exact HK.out | exact keR | refine keA ?_ | refine keS ?_ fun h => absurd h (by omega) | refine keN ?_ | refine keD ?_))⟩
  case round =>
  obtain ⟨k, hk, rfl, hkr⟩ := hrel
  have KR := Lib.hid hkr
  have z0 := (hkr.cell (i := 0) xl).trans x0
  have zl := Nat.lt_of_lt_of_le xl hkr.size
  have HBr := Lib.hid ((hkr.block b2 yl fun _ h => h).trans HB2.out)
  have u0 := cell_of_heap (o := 0) HBr.out rfl
  have u1 := cell_of_heap (o := 1) HBr.out rfl
  have f0 := Blk.free (A := _) ⟨_, HBr.out⟩ 0
  have f1 := Blk.free (A := _) ⟨_, HBr.out⟩ 1
  have ul := lt_of_heap HBr.out
  clear hkr x0 x1 y0
  by_cases hkl : k < m
  case neg =>
    have hlt : ¬ (k : Int) < (m : Int) := by omega
    go_wp2
    refine bodyPost_ret (by simp [results, Tryz.results49, go_sem, u0, u1, ul]; rfl) rfl ?_
    exact ⟨rfl, keep_at (keep_at (K2.out.both KR.out) _ (by rw [HG1.out]; exact HLW.out)) _ (by rw [HG1.out]; exact HLW.out)⟩
  case pos =>
  have hlt : (k : Int) < (m : Int) := by omega
  have hkc : k < cls.length := by rw [HM.out]; exact hkl
  obtain ⟨bc, fc, ol, cl, rfl, hbc, p0, hints, hcl, hcl2⟩ := (HC.out.keep (K2.out.both KR.out)).at hkc
  have hv0 := HOK.out.c _ (List.getElem_mem hkc)
  have h24 := hv0.2
  have CB := Lib.hid (bad_any vars wr ol cl cls[k] hints hcl hv0.1 (by omega))
  generalize cls[k] = c at *
  have h24I : ¬ (24 : Int) < (c.length : Int) := by omega
  clear hints hv0
  go_wp2_with fail
  refine CB.out.mono ?_
  rintro e w3 ⟨rfl, hk3⟩
  have K3 := Lib.hid (KR.out.both hk3)
  clear hk3 CB
  go_wp2
  go_roundw
  case rel => exact ⟨k + 1, by omega, by go_num, K3.out⟩
  case measure => simp [intOf]; omega
end Go.Proofs.YtnndmdfjdodiiaaGreat
