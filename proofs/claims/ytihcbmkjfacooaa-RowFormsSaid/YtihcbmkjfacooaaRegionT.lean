/- A region whose order is drawn, by a plan that parts where two operations are free. -/
import Derived.Test.YtihcbmkjfacooaaRegion
namespace Go.Proofs.Ytihcbmkjfacooaa
set_option linter.unusedVariables false
set_option linter.unusedSimpArgs false

/-- A plan: quiet operations, then the one that comes next, or each of the two that may. -/
inductive PT where
  | fin (qs : List Nat)
  | one (qs : List Nat) (e : Nat) (p : PT)
  | two (qs : List Nat) (e1 : Nat) (p1 : PT) (e2 : Nat) (p2 : PT)

section
variable {P : Program} {ops : Array Oper} {Q : Exit → Act → World → Prop} {C : World → Prop} {md : Region.Mode}

def planT (md : Region.Mode) (ops : Array Oper) : PT → Array Bool → Bool
  | .fin qs, listed => takeB md ops (fun _ => false) false qs listed && (Region.ready md ops (listedBy listed qs)).isEmpty
  | .one qs e p, listed => takeB md ops (fun _ => false) false qs listed && (Region.ready md ops (listedBy listed qs) == [e]) && planT md ops p ((listedBy listed qs).setIfInBounds e true)
  | .two qs e1 p1 e2 p2, listed => takeB md ops (fun _ => false) false qs listed && (Region.ready md ops (listedBy listed qs) == [e1, e2]) && (planT md ops p1 ((listedBy listed qs).setIfInBounds e1 true) && planT md ops p2 ((listedBy listed qs).setIfInBounds e2 true))

def lenT : PT → Nat
  | .fin qs => qs.length
  | .one qs _ p => lenT p + 1 + qs.length
  | .two qs _ p1 _ _ => lenT p1 + 1 + qs.length

def evenT : PT → Bool
  | .fin _ => true
  | .one _ _ p => evenT p
  | .two _ _ p1 _ p2 => evenT p1 && evenT p2 && lenT p1 == lenT p2

def wpPlanT (P : Program) (ops : Array Oper) (Q : Exit → Act → World → Prop) (C : World → Prop) : PT → Act → World → Prop
  | .fin qs, a, w => wpQuiet P ops (clsOf C false) (fun a' => Q .normal a' w) (pickOps ops qs) a
  | .one qs e p, a, w => wpQuiet P ops (clsOf C false) (fun a' => wpOp P ops Q e (fun a'' w'' => C w'' ∧ wpPlanT P ops Q C p a'' w'') a' w) (pickOps ops qs) a
  | .two qs e1 p1 e2 p2, a, w => wpQuiet P ops (clsOf C false) (fun a' => wpOp P ops Q e1 (fun a'' w'' => C w'' ∧ wpPlanT P ops Q C p1 a'' w'') a' w ∧ wpOp P ops Q e2 (fun a'' w'' => C w'' ∧ wpPlanT P ops Q C p2 a'' w'') a' w) (pickOps ops qs) a

theorem wpAnyL_planT (hs : Region.noSelect ops = true) (hQ : ∀ c (a : Act) w, ¬ Q (.panic c) a w) : ∀ (p : PT) (listed : Array Bool) (a : Act) (w : World), DC md ops listed →
    planT md ops p listed = true → evenT p = true → C w → wpPlanT P ops Q C p a w → wpAnyL P md ops Q C (fun _ => false) (lenT p) listed a w
  | .fin qs, listed, a, w, hd, hB, _, hC, h => by
    simp only [planT, Bool.and_eq_true] at hB
    have := wpAnyL_take (md := md) (late := fun _ => false) (C := C) hs hQ (w := w) (R := fun a' => Q .normal a' w) false 0 qs listed a hd hB.1 (fun _ => hC) (fun _ a' ha => ⟨by simpa using hB.2, ha⟩) h
    simpa [lenT] using this
  | .one qs e p, listed, a, w, hd, hB, hE, hC, h => by
    simp only [planT, Bool.and_eq_true] at hB
    obtain ⟨⟨h1, h2⟩, h4⟩ := hB
    refine wpAnyL_take hs hQ false (lenT p + 1) qs listed a hd h1 (fun _ => hC) (fun hd' a' ha => ?_) h
    have hre : Region.ready md ops (listedBy listed qs) = [e] := by simpa using h2
    refine ⟨fun h0 => (by rw [hre] at h0; cases h0), fun j hj => ?_⟩
    rw [hre] at hj
    obtain rfl : j = e := by simpa using hj
    exact wpOp_mono (fun a'' w'' ⟨g1, g2⟩ => ⟨fun _ => g1, wpAnyL_planT hs hQ p _ a'' w'' (hd'.set (by rw [hre]; exact List.mem_singleton.2 rfl)) h4 hE g1 g2⟩) ha
  | .two qs e1 p1 e2 p2, listed, a, w, hd, hB, hE, hC, h => by
    simp only [planT, Bool.and_eq_true] at hB
    simp only [evenT, Bool.and_eq_true, beq_iff_eq] at hE
    obtain ⟨⟨h1, h2⟩, h4, h5⟩ := hB
    obtain ⟨⟨he1, he2⟩, hl⟩ := hE
    refine wpAnyL_take hs hQ false (lenT p1 + 1) qs listed a hd h1 (fun _ => hC) (fun hd' a' ha => ?_) h
    have hre : Region.ready md ops (listedBy listed qs) = [e1, e2] := by simpa using h2
    refine ⟨fun h0 => (by rw [hre] at h0; cases h0), fun j hj => ?_⟩
    have hj' := hj
    rw [hre] at hj
    have hj2 : j = e1 ∨ j = e2 := by simpa using hj
    rcases hj2 with e | e
    · rw [e] at hj' ⊢
      exact wpOp_mono (fun a'' w'' ⟨g1, g2⟩ => ⟨fun _ => g1, wpAnyL_planT hs hQ p1 _ a'' w'' (hd'.set hj') h4 he1 g1 g2⟩) ha.1
    · rw [e] at hj' ⊢
      exact wpOp_mono (fun a'' w'' ⟨g1, g2⟩ => ⟨fun _ => g1, by rw [hl]; exact wpAnyL_planT hs hQ p2 _ a'' w'' (hd'.set hj') h5 he2 g1 g2⟩) ha.2

/-- **A DRAWN REGION BY A PLAN THAT PARTS.** The class: whatever worlds W that meet F. -/
theorem wp_region_tree {id : Nat} {l : List Oper} {a : Act} {w : World} {Q : Exit → Act → World → Prop} (F : World → Prop) (p : PT) (hm : P.follows .mixedOrders = true)
    (hB : (Region.noSelect l.toArray && planT .any l.toArray p (Array.replicate l.toArray.size false) && evenT p && (lenT p == l.toArray.size)) = true) (hF : F w.drew)
    (h : ∀ (X : Type) (W : X → World), Nonempty X → (∀ x, F (W x)) → (∀ w', F w' → ∃ x, w' = W x) → wpPlanT P l.toArray (NoPanic Q) (fun w' => ∃ x, w' = W x) p a w.drew) : (Code.region id l.toArray true).wp P Q a w := by
  have h' := h {w' : World // F w'} (fun x => x.1) ⟨⟨_, hF⟩⟩ (fun x => x.2) fun w' hw => ⟨⟨w', hw⟩, rfl⟩
  simp only [Bool.and_eq_true] at hB
  refine wp_region_noPanic (wp_region_any hm (wpAny_of_late _ _ _ _ (C := fun w' => ∃ x : {w' : World // F w'}, w' = x.1) (late := fun _ => false) ?_))
  have := wpAnyL_planT hB.1.1.1 (fun _ _ _ h => h) p _ a w.drew (fun k ok e _ hl => by simp [Array.getD] at hl) hB.1.1.2 hB.1.2 ⟨⟨_, hF⟩, rfl⟩ h'
  rw [show lenT p = l.toArray.size from by simpa using hB.2] at this
  exact this

end
end Go.Proofs.Ytihcbmkjfacooaa
