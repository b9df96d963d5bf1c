/- The solver where each atom stands in a clause of its own. -/
import Derived.Test.YtnndmdfjdodiiaaGreatTtTa
namespace Go.Proofs.YtnndmdfjdodiiaaGreat
open Go.ChangeShapes Go.WideShapes Go.RowKit Go.Maps
set_option linter.unusedVariables false
set_option linter.unusedSimpArgs false

theorem cdo_cd {n : Nat} {cls : List (List Int)} {ph fuel : Int} {used : Nat} (hok : CnfOK n cls) (hph : 0 ≤ ph ∧ ph ≤ 2) (hfu : (used : Int) < fuel ∧ fuel ≤ 2000) (hU : ∀ t, Cd.runF (n + 1) cls ⟨[], []⟩ = (t, -1) → ∀ v : Nat, 1 ≤ v → v ≤ n → (v : Int) ∈ t.lits ∨ -(v : Int) ∈ t.lits) (w' : World) (oc : Option Addr) (cc : Nat) (h : IsCls w' (.slice oc cls.length cc) cls) :
    Calls Tryz.prog 39 #[.agg #[.int .i64 (n : Int), .slice oc cls.length cc], .slice none 0 0, .agg #[.int .i64 0, .int .i64 0, .int .i64 0, .int .i64 ph], .int .i64 (fuel - (used : Int))] w' (AnsP n (Sv.doC n (ph == 1) (fuel.toNat - used) cls) w') := by
  have := cdoF_any n w' oc cc cls ph (fuel - (used : Int)) h hok hph (by omega) hU
  rwa [show (fuel - (used : Int)).toNat = fuel.toNat - used by omega] at this
theorem clsE_len (E : List Sv.En) : (Sv.clsE E).length = E.length := by unfold Sv.clsE; rw [List.length_map, Sv.places_len]
theorem cnfE (E : List Sv.En) (hE : E.length ≤ 20) {X : List (List Int)} (hX : ∀ c ∈ X, ValidC E.length c) (hl : X.length ≤ 10) : CnfOK E.length (Sv.clsE E ++ X) := by
  refine ⟨by omega, by rw [List.length_append, clsE_len]; omega, fun c hc => ?_⟩
  have hv : ValidC E.length c := by
    rcases List.mem_append.1 hc with q | q
    · exact Sv.clsE_ok E c q
    · exact hX c q
  exact ⟨hv, by have := hv.le; omega⟩
theorem unitsE (E : List Sv.En) {X : List (List Int)} (hX : Cd.ClsOK E.length X) : ∀ t, Cd.runF (E.length + 1) (Sv.clsE E ++ X) ⟨[], []⟩ = (t, -1) → ∀ v : Nat, 1 ≤ v → v ≤ E.length → (v : Int) ∈ t.lits ∨ -(v : Int) ∈ t.lits := by
  intro t ht
  have := Sv.runs_in (E := E) (X := X) hX (by rw [ht])
  rw [ht] at this
  exact Sv.units_all this
/-- What is so ahead of the rounds of a form of equalities. -/
def IE (E : List Sv.En) : Nat → Sv.SvS → Prop
  | 2, s => s = ⟨Sv.clsE E, [], 0⟩
  | 1, s => ∃ c, s = ⟨Sv.clsE E ++ [c], [⟨3, c⟩], 1⟩ ∧ ((c.map Int.natAbs).Nodup ∧ ∀ l ∈ c, l ≠ 0 ∧ l.natAbs ≤ E.length) ∧ ∀ l ∈ c, -l ∈ Sv.placesE E
  | _, _ => False
theorem doE1 (terms : List Cl.Tm) (E : List Sv.En) (fuel : Nat) (hf : 0 < fuel) : ∃ T, Sv.doC (Sv.frmE terms E).atoms.length false fuel (Sv.clsE E) = .yes T 0 ∧ Sv.holdsT (Sv.frmE terms E).atoms.length T = E.map fun e => e.s := by
  rw [show (Sv.frmE terms E).atoms.length = E.length from Sv.atomsE_len E]
  exact Sv.doC_E1 E false fuel hf
theorem doE2 (terms : List Cl.Tm) (E : List Sv.En) (fuel : Nat) (hf : 0 < fuel) {c : List Int} (k1 : (c.map Int.natAbs).Nodup ∧ ∀ l ∈ c, l ≠ 0 ∧ l.natAbs ≤ E.length) (k2 : ∀ l ∈ c, -l ∈ Sv.placesE E) : Sv.doC (Sv.frmE terms E).atoms.length false fuel (Sv.clsE E ++ [c]) = .no [[]] 1 := by
  rw [show (Sv.frmE terms E).atoms.length = E.length from Sv.atomsE_len E]
  exact Sv.doC_E2 E false fuel hf k1 k2
theorem runS_step {f : Sv.Frm} {ph : Bool} {fuel n : Nat} {s : Sv.SvS} : runS f ph fuel (n + 1) s = match roundF f fuel s (Sv.doC f.atoms.length ph (fuel - s.used) s.cls) with
    | .done st => st
    | .next s' => runS f ph fuel n s' := rfl
theorem run_E (terms : List Cl.Tm) (E : List Sv.En) (fuel : Nat) (hf : 2 ≤ fuel) : ((∀ i ∈ Sv.aidx E, Cl.relB terms (Sv.sameE E) (E.getD i Sv.en0).a (E.getD i Sv.en0).b = false) → runS (Sv.frmE terms E) false fuel 2 ⟨Sv.clsE E, [], 0⟩ = 1 ∨ runS (Sv.frmE terms E) false fuel 2 ⟨Sv.clsE E, [], 0⟩ = 3) ∧ ((∃ i ∈ Sv.aidx E, Cl.relB terms (Sv.sameE E) (E.getD i Sv.en0).a (E.getD i Sv.en0).b = true) → runS (Sv.frmE terms E) false fuel 2 ⟨Sv.clsE E, [], 0⟩ = 2 ∨ runS (Sv.frmE terms E) false fuel 2 ⟨Sv.clsE E, [], 0⟩ = 3) := by
  obtain ⟨T, h1, h2⟩ := doE1 terms E fuel (by omega)
  have e1 : runS (Sv.frmE terms E) false fuel 2 ⟨Sv.clsE E, [], 0⟩ = match roundF (Sv.frmE terms E) fuel ⟨Sv.clsE E, [], 0⟩ (.yes T 0) with
    | .done st => st
    | .next s' => runS (Sv.frmE terms E) false fuel 1 s' := by
    rw [runS_step, Nat.sub_zero, h1]
  rw [e1]
  unfold roundF
  simp only [h2]
  constructor
  · intro h
    rw [Sv.viol_E1 h]
    simp only
    split
    · rename_i q; split at q <;> (cases q; first | exact .inl rfl | exact .inr rfl)
    · rename_i q; split at q <;> cases q
  · intro h
    obtain ⟨c, hc⟩ := Sv.viol_E2 h
    rw [hc]
    simp only
    rw [if_neg (by omega)]
    simp only
    obtain ⟨k1, k2⟩ := Sv.viol_E3 hc
    rw [runS_step]
    simp only [List.nil_append, Nat.zero_add]
    rw [doE2 terms E (fuel - 1) (by omega) k1 k2]
    unfold roundF
    simp only
    split
    · rename_i q; split at q <;> (cases q; first | exact .inl rfl | exact .inr rfl)
    · rename_i q; split at q <;> cases q
theorem IE_ok (terms : List Cl.Tm) (E : List Sv.En) (hE : E.length ≤ 20) : ∀ k s, IE E k s → ∃ j, k = j + 1 ∧ RndI (Sv.frmE terms E) 0 2000 s ∧ ∀ s', roundF (Sv.frmE terms E) (2000 : Int).toNat s (Sv.doC (Sv.frmE terms E).atoms.length ((0 : Int) == 1) ((2000 : Int).toNat - s.used) s.cls) = .next s' → IE E j s' := by
  have hn : (Sv.frmE terms E).atoms.length = E.length := Sv.atomsE_len E
  have e0 : ((0 : Int) == 1) = false := rfl
  have e2 : (2000 : Int).toNat = 2000 := rfl
  intro k s h
  match k, h with
  | 2, h =>
    obtain rfl : s = ⟨Sv.clsE E, [], 0⟩ := h
    obtain ⟨T, h1, h2⟩ := doE1 terms E (2000 - 0) (by omega)
    refine ⟨1, rfl, ⟨by rw [clsE_len]; omega, by simp, fun x hx => (by cases hx), by simp, .inl ⟨T, 0, ?_, by omega⟩, ?_⟩, fun s' hs => ?_⟩
    · rw [e0, e2]; exact h1
    · have hc := cnfE E hE (X := []) (fun c hc => by cases hc) (by simp)
      have hu := unitsE E (X := []) (fun c hc => by cases hc)
      rw [List.append_nil] at hc hu
      rw [hn]
      exact cdo_cd hc (by omega) (by simp) hu
    · rw [e0, e2, h1] at hs
      unfold roundF at hs
      simp only [h2] at hs
      rcases hv : Sv.violF (Sv.frmE terms E) (E.map fun e => e.s) with _ | c
      · rw [hv] at hs
        simp only at hs
        split at hs <;> cases hs
      · rw [hv] at hs
        simp only at hs
        rw [if_neg (by omega)] at hs
        injection hs with hs
        obtain ⟨k1, k2⟩ := Sv.viol_E3 hv
        exact ⟨c, hs.symm, k1, k2⟩
  | 1, h =>
    obtain ⟨c, rfl, k1, k2⟩ := h
    have h1 := doE2 terms E (2000 - 1) (by omega) k1 k2
    have hX : ∀ d ∈ [c], ValidC E.length d := fun d hd => by rw [List.mem_singleton.1 hd]; exact k1
    refine ⟨0, rfl, ⟨by rw [List.length_append, clsE_len]; simp; omega, by simp, fun x hx => ?_, by simp, .inr ⟨[[]], 1, ?_, by omega, fun d hd => ?_, by simp⟩, ?_⟩, fun s' hs => ?_⟩
    · obtain rfl := List.mem_singleton.1 hx
      rw [hn]
      exact ⟨.inr rfl, k1⟩
    · rw [e0, e2]; exact h1
    · obtain rfl := List.mem_singleton.1 hd
      exact ⟨by simp, fun l hl => by cases hl⟩
    · rw [hn]
      exact cdo_cd (cnfE E hE hX (by simp)) (by omega) (by simp) (unitsE E hX)
    · rw [e0, e2, h1] at hs
      unfold roundF at hs
      simp only at hs
      split at hs <;> cases hs
/-- The solver's answer on equalities that are told outright. -/
theorem solveE_any (w : World) (L : FmL) (terms : List Cl.Tm) (E : List Sv.En) (hF : IsForm w L (Sv.frmE terms E)) (hok : FmOK (Sv.frmE terms E)) (hE : E.length ≤ 20) :
    Calls Tryz.prog 7 #[L.v (Sv.frmE terms E), .agg #[.int .i64 0, .int .i64 0, .int .i64 0, .int .i64 0], .int .i64 2000] w fun e w' => (∃ (st : Int) (p1 : Option Addr) (p2 p3 : Nat) (q1 : Option Addr) (q2 q3 : Nat) (r1 : Option Addr) (r2 r3 : Nat) (u : Int), e = .returned (.tuple #[.agg #[.int .i64 st, .slice p1 p2 p3, .slice q1 q2 q3, .slice none 0 0, .slice r1 r2 r3, .int .i64 u], fa0]) ∧ ((∀ i ∈ Sv.aidx E, Cl.relB terms (Sv.sameE E) (E.getD i Sv.en0).a (E.getD i Sv.en0).b = false) → st = 1 ∨ st = 3) ∧ ((∃ i ∈ Sv.aidx E, Cl.relB terms (Sv.sameE E) (E.getD i Sv.en0).a (E.getD i Sv.en0).b = true) → st = 2 ∨ st = 3)) ∧ Keep NoS w w' := by
  refine (solve_any w L (Sv.frmE terms E) 0 2000 2 (IE E) hF hok (by omega) (by omega) rfl (IE_ok terms E hE)).mono ?_
  rintro e w' ⟨⟨p1, p2, p3, q1, q2, q3, r1, r2, r3, u, he⟩, hk⟩
  have hR := run_E terms E 2000 (by omega)
  exact ⟨⟨_, p1, p2, p3, q1, q2, q3, r1, r2, r3, u, he, hR.1, hR.2⟩, hk⟩
/-- One free atom, in a clause. -/
def frm1 : Sv.Frm := ⟨[], [⟨1, 0, 0⟩], [[1]]⟩
theorem run1 : Cd.runF 2 [[1]] ⟨[], []⟩ = (⟨[1], [0]⟩, -1) := by kernel_rfl
theorem do1 (fuel : Nat) (hf : 0 < fuel) : Sv.doC 1 false fuel [[1]] = .yes [1] 0 := by
  rw [Sv.doC_unit hf run1 (fun _ v h1 h2 => .inl (by obtain rfl : v = 1 := by omega
                                                     simp)), if_neg (by simp)]
theorem round1 (fuel : Nat) : roundF frm1 fuel ⟨[[1]], [], 0⟩ (.yes [1] 0) = .done 1 := by kernel_rfl
def I1 : Nat → Sv.SvS → Prop
  | 1, s => s = ⟨[[1]], [], 0⟩
  | _, _ => False
theorem cnf1 : CnfOK 1 [[1]] := ⟨by omega, by simp, fun c hc => by
  obtain rfl := List.mem_singleton.1 hc
  exact ⟨⟨by simp, fun l hl => by obtain rfl := List.mem_singleton.1 hl; simp⟩, by simp⟩⟩
theorem fm1 : FmOK frm1 := ⟨⟨by simp [frm1], fun i h => absurd h (by simp [frm1])⟩, by simp [frm1], fun a ha => by
  obtain rfl := List.mem_singleton.1 ha
  exact .inl ⟨rfl, rfl, rfl⟩, cnf1⟩
theorem I1_ok : ∀ k s, I1 k s → ∃ j, k = j + 1 ∧ RndI frm1 0 2000 s ∧ ∀ s', roundF frm1 (2000 : Int).toNat s (Sv.doC frm1.atoms.length ((0 : Int) == 1) ((2000 : Int).toNat - s.used) s.cls) = .next s' → I1 j s' := by
  have e0 : ((0 : Int) == 1) = false := rfl
  have e2 : (2000 : Int).toNat = 2000 := rfl
  intro k s h
  match k, h with
  | 1, h =>
    obtain rfl : s = ⟨[[1]], [], 0⟩ := h
    have h1 := do1 (2000 - 0) (by omega)
    refine ⟨0, rfl, ⟨by simp, by simp, fun x hx => (by cases hx), by simp, .inl ⟨[1], 0, ?_, by omega⟩, ?_⟩, fun s' hs => ?_⟩
    · rw [e0, e2]; exact h1
    · exact cdo_cd (n := 1) cnf1 (by omega) (by simp) fun t ht v h1 h2 => by
        rw [run1] at ht
        injection ht with ht
        rw [← ht]
        obtain rfl : v = 1 := by omega
        exact .inl (by simp)
    · rw [e0, e2, show frm1.atoms.length = 1 from rfl, h1, round1] at hs
      cases hs
set_option maxRecDepth 100000 in
set_option maxHeartbeats 4000000 in
theorem sure_any (w : World) : Calls Tryz.prog 8 #[] w fun e w' => e = .returned (.bool true) ∧ Keep NoS w w' := by
  obtain ⟨w2, hw2⟩ : ∃ w2 : World, w2 = ((w.alloc (.cells #[.int .i64 1, .int .i64 0, .int .i64 0, .slice none 0 0, .int .i64 0, .int .i64 0] TAt)).alloc (.cells #[.int .i64 1] TI)).alloc (.cells #[.slice (some ⟨w.heap.size + 1, 0, none⟩) 1 1] TLi) := ⟨_, rfl⟩
  have K2 : Hid (Keep NoS w w2) := Lib.hid (by rw [hw2]; exact (((Keep.refl _ _).alloc _).alloc _).alloc _)
  have bA : w2.heap[w.heap.size]? = some (.cells #[.int .i64 1, .int .i64 0, .int .i64 0, .slice none 0 0, .int .i64 0, .int .i64 0] TAt (0, 0)) := by rw [hw2, heap_alloc_old _ _ _ (by simp; omega), heap_alloc_old _ _ _ (by simp)]; exact heap_alloc_at _ _ _ rfl
  have bI : w2.heap[w.heap.size + 1]? = some (.cells #[.int .i64 1] TI (0, 0)) := by rw [hw2, heap_alloc_old _ _ _ (by simp)]; exact heap_alloc_at _ _ _ (by simp)
  have bL : w2.heap[w.heap.size + 1 + 1]? = some (.cells #[.slice (some ⟨w.heap.size + 1, 0, none⟩) 1 1] TLi (0, 0)) := by rw [hw2]; exact heap_alloc_at _ _ _ (by simp)
  have hF : IsForm w2 ⟨none, 0, some ⟨w.heap.size, 0, none⟩, 1, some ⟨w.heap.size + 1 + 1, 0, none⟩, 1⟩ frm1 := by
    refine ⟨⟨none, 0, rfl, Nat.le_refl _, by unfold maxLen; omega, fun h => absurd rfl h⟩, ⟨_, 1, rfl, Nat.le_refl _, by unfold maxLen; omega, fun _ => ⟨w.heap.size, 0, rfl, lt_of_heap bA, fun i a hi j u hj => ?_⟩⟩, ⟨_, 1, rfl, Nat.le_refl _, by unfold maxLen; omega, fun _ => ⟨w.heap.size + 1 + 1, 0, rfl, lt_of_heap bL, fun i c hi => ?_⟩⟩⟩
    · have hi0 : i = 0 := by have := (List.getElem?_eq_some_iff.1 hi).1; simp [frm1] at this; exact this
      subst hi0
      simp [frm1] at hi
      subst hi
      refine cell_of_heap bA ?_
      simpa [atC] using hj
    · have hi0 : i = 0 := by have := (List.getElem?_eq_some_iff.1 hi).1; simp [frm1] at this; exact this
      subst hi0
      simp [frm1] at hi
      subst hi
      refine ⟨_, cell_of_heap (o := 0) bL rfl, ⟨_, 1, rfl, by simp [maxLen], fun x hx => by obtain rfl := List.mem_singleton.1 hx; unfold I64; omega, fun _ => ⟨w.heap.size + 1, 0, rfl, lt_of_heap bI, fun i x hx => ?_⟩⟩, ⟨_, 1, 1, rfl, Nat.le_refl _, by unfold maxLen; omega⟩⟩
      refine cell_of_heap bI ?_
      rw [Nat.zero_add]
      have hi0 : i = 0 := by have := (List.getElem?_eq_some_iff.1 hx).1; simp at this; exact this
      subst hi0
      simp at hx
      subst hx
      rfl
  have CS := Lib.hid (solve_any w2 ⟨none, 0, some ⟨w.heap.size, 0, none⟩, 1, some ⟨w.heap.size + 1 + 1, 0, none⟩, 1⟩ frm1 0 2000 1 I1 hF fm1 (by omega) (by omega) rfl I1_ok)
  have hrun : runS frm1 ((0 : Int) == 1) (2000 : Int).toNat 1 ⟨frm1.cls, [], 0⟩ = 1 := by
    rw [show (2000 : Int).toNat = 2000 from rfl, show ((0 : Int) == 1) = false from rfl, show frm1.cls = [[1]] from rfl, runS_step, show frm1.atoms.length = 1 from rfl, do1 (2000 - 0) (by omega), round1]
  rw [hrun] at CS
  unfold FmL.v fa0 at CS
  simp only [show frm1.terms.length = 0 from rfl, show frm1.atoms.length = 1 from rfl, show frm1.cls.length = 1 from rfl] at CS
  clear bA bI bL hF hrun
  go_enter Tryz.func8, Tryz.ntmps8
  go_wp2_with fail
  rw [← hw2]
  refine CS.out.mono ?_
  rintro e w3 ⟨⟨p1, p2, p3, q1, q2, q3, r1, r2, r3, u, rfl⟩, hk3⟩
  have K3 := Lib.hid (K2.out.both hk3)
  clear hw2 hk3 CS
  go_wp2
  go_ret
  exact ⟨rfl, (K3.out.alloc _).alloc _⟩
end Go.Proofs.YtnndmdfjdodiiaaGreat
