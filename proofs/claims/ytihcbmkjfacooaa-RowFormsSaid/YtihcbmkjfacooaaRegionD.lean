/- A region whose order is drawn, by a plan with two classes of worlds: C, until a late operation has come; D₀, all the way. -/
import Derived.Test.YtihcbmkjfacooaaRegion
namespace Go.Proofs.Ytihcbmkjfacooaa
set_option linter.unusedVariables false
set_option linter.unusedSimpArgs false

section
variable {P : Program} {ops : Array Oper} {Q : Exit → Act → World → Prop} {C D₀ : World → Prop}

def wpAnyD (P : Program) (md : Region.Mode) (ops : Array Oper) (Q : Exit → Act → World → Prop) (C D₀ : World → Prop) (late : Nat → Bool) : Nat → Array Bool → Act → World → Prop
  | 0, listed, a, w => Region.ready md ops listed = [] ∧ Q .normal a w
  | fuel + 1, listed, a, w =>
    (Region.ready md ops listed = [] → Q .normal a w) ∧
    ∀ i ∈ Region.ready md ops listed, wpOp P ops Q i (fun a' w' => ((late i = false → C w') ∧ D₀ w') ∧ wpAnyD P md ops Q C D₀ late fuel (listed.setIfInBounds i true) a' w') a w

variable {md : Region.Mode} {late : Nat → Bool}

theorem wpAny_of_D : ∀ (fuel : Nat) (listed : Array Bool) (a : Act) (w : World), wpAnyD P md ops Q C D₀ late fuel listed a w → wpAny P md ops Q fuel listed a w
  | 0, _, _, _, h => h
  | fuel + 1, _, _, _, h => ⟨h.1, fun i hi => wpOp_mono (fun a' w' h' => wpAny_of_D fuel _ a' w' h'.2) (h.2 i hi)⟩

theorem wpAnyD_first {D : World → Prop} {i : Nat} {oi : Oper} {v : Value} (hi : ops[i]? = some oi) (hlk : looks oi.op = true) (hsel : ∀ (j : Nat) (o : Oper) cs b, ops[j]? = some o → o.op ≠ .select cs b)
    (hQ : ∀ c (a : Act) w, ¬ Q (.panic c) a w) (hCD : ∀ w, C w → D w) :
    ∀ (fuel : Nat) (listed : Array Bool) (a : Act) (w : World), DC md ops listed →
      (∀ j oj, ops[j]? = some oj → j ≠ i → listed.getD j true = false → (∀ e ∈ oj.after, Region.binds md e = true → e.on ≠ i) → oi.apart ops oj = true) →
      ((late i = true ∧ ∀ w, D₀ w → D w) ∨ ∀ j, late j = true → listed.getD j true = true ∨ ∃ n, waitsB md ops n j i = true) →
      (late i = false → C w) → D₀ w → i ∈ Region.ready md ops listed → YieldsIn P ops D oi v a → D w →
      wpAnyD P md ops Q C D₀ late fuel (listed.setIfInBounds i true) (a.put oi.dst v) w → wpAnyD P md ops Q C D₀ late (fuel + 1) listed a w := by
  intro fuel
  induction fuel with
  | zero =>
    intro listed a w _ _ _ hli h0D hr hy hC H
    refine ⟨fun h => (by rw [h] at hr; cases hr), fun j hj => ?_⟩
    by_cases hji : j = i
    · subst hji; exact yieldsIf_wpOp hi hlk hy hC ⟨⟨hli, h0D⟩, H⟩
    · have := ready_mono hj hji
      rw [H.1] at this
      cases this
  | succ fuel ih =>
    intro listed a w hdc hfree hlate hli h0D hr hy hC H
    refine ⟨fun h => (by rw [h] at hr; cases hr), fun j hj => ?_⟩
    by_cases hji : j = i
    · subst hji; exact yieldsIf_wpOp hi hlk hy hC ⟨⟨hli, h0D⟩, H⟩
    · have h1 := H.2 j (ready_mono hj hji)
      obtain ⟨hjun, oj, hoj, hall⟩ := mem_ready.1 hj
      have hun : listed.getD i false = false := by
        have h0 := (mem_ready.1 hr).1
        rcases Nat.lt_or_ge i listed.size with h' | h'
        · simpa [Array.getD, h'] using h0
        · simp [Array.getD, Nat.not_lt.2 h']
      have hnot : ∀ e ∈ oj.after, Region.binds md e = true → e.on ≠ i := fun e he hb heq => by
        have h2 := hall e he hb
        rw [heq, hun] at h2
        cases h2
      have hap := hfree j oj hoj hji hjun hnot
      have hlj : late j = false ∨ (late i = true ∧ ∀ w, D₀ w → D w) := by
        rcases hlate with h | h
        · exact .inr h
        · rcases hl : late j with _ | _
          · exact .inl rfl
          · rcases h j hl with h | ⟨n, h⟩
            · rw [hjun] at h; cases h
            · exact absurd hj (waits_not_ready hdc hun h)
      have hlate' : (late i = true ∧ ∀ w, D₀ w → D w) ∨ ∀ k, late k = true → (listed.setIfInBounds j true).getD k true = true ∨ ∃ n, waitsB md ops n k i = true := by
        refine hlate.imp id fun h k hk => (h k hk).imp (fun h' => ?_) id
        by_cases hjk : j = k
        · subst hjk; rw [hjun] at h'; cases h'
        · rw [getD_set_ne true hjk]; exact h'
      have hap3 := (Oper.apart_spec hap).2.2
      have h2 := wpOp_apart (I := YieldsIn P ops D oi v) hoj hap (fun cs b => hsel j oj cs b hoj) hQ
        (fun a u h => h.of_same (execOp_put oi (fun cs b => hsel i oi cs b hi) a oj.dst u hap3) (wanted_put oi a oj.dst u hap3)) (fun a d h => h.of_same rfl rfl) hy h1
      refine wpOp_mono (fun a' w' h3 => ⟨h3.2.1, ih (listed.setIfInBounds j true) a' w' (hdc.set hj) (fun k ok hk hki hun' hno => ?_) hlate' (fun hl => ?_) h3.2.1.2 (ready_mono hr (Ne.symm hji)) h3.1 ?_ ?_⟩) h2
      · refine hfree k ok hk hki ?_ hno
        by_cases hjk : j = k
        · subst hjk; exact hjun
        · rw [getD_set_ne true hjk] at hun'; exact hun'
      · rcases hlj with h | ⟨h, _⟩
        · exact h3.2.1.1 h
        · rw [hl] at h; cases h
      · rcases hlj with h | ⟨_, h⟩
        · exact hCD _ (h3.2.1.1 h)
        · exact h _ h3.2.1.2
      · rw [Array.setIfInBounds_comm _ _ hji]
        exact h3.2.2

def takeD (md : Region.Mode) (ops : Array Oper) (late : Nat → Bool) (d : Bool) : List Nat → Array Bool → Bool
  | [], _ => true
  | i :: is, listed => (Region.ready md ops listed).contains i && Region.free md ops listed i && ((ops[i]?).map (looks ·.op)).getD false && (if d then late i else (!late i && lateWaits md ops late listed i)) &&
      takeD md ops late d is (listed.setIfInBounds i true)

def planD (md : Region.Mode) (ops : Array Oper) (late : Nat → Bool) (fin : List Nat × List Nat) : Bool → List (List Nat × List Nat × Nat) → Array Bool → Bool
  | bare, [], listed => takeD md ops late true fin.1 listed && takeD md ops late false fin.2 (listedBy listed fin.1) && (!bare || fin.2.isEmpty) && (Region.ready md ops (listedBy (listedBy listed fin.1) fin.2)).isEmpty
  | bare, (ds, qs, e) :: rest, listed => takeD md ops late true ds listed && takeD md ops late false qs (listedBy listed ds) && (!bare || qs.isEmpty) && (Region.ready md ops (listedBy (listedBy listed ds) qs) == [e]) && (!bare || late e) &&
      planD md ops late fin (late e) rest ((listedBy (listedBy listed ds) qs).setIfInBounds e true)

def planDLen (fin : List Nat × List Nat) : List (List Nat × List Nat × Nat) → Nat
  | [] => 0 + fin.2.length + fin.1.length
  | (ds, qs, _) :: rest => planDLen fin rest + 1 + qs.length + ds.length

def wpPlanD (P : Program) (ops : Array Oper) (Q : Exit → Act → World → Prop) (C D₀ : World → Prop) (late : Nat → Bool) (fin : List Nat × List Nat) : List (List Nat × List Nat × Nat) → Act → World → Prop
  | [], a, w => wpQuiet P ops D₀ (fun a1 => wpQuiet P ops C (fun a' => Q .normal a' w) (pickOps ops fin.2) a1) (pickOps ops fin.1) a
  | (ds, qs, e) :: rest, a, w => wpQuiet P ops D₀ (fun a1 => wpQuiet P ops C (fun a' => wpOp P ops Q e (fun a'' w'' => ((late e = false → C w'') ∧ D₀ w'') ∧ wpPlanD P ops Q C D₀ late fin rest a'' w'') a' w) (pickOps ops qs) a1) (pickOps ops ds) a

theorem wpAnyD_take (hs : Region.noSelect ops = true) (hQ : ∀ c (a : Act) w, ¬ Q (.panic c) a w) (hCD : ∀ w, C w → D₀ w) {w : World} {R : Act → Prop} (d : Bool) (fuel : Nat) : ∀ (qs : List Nat) (listed : Array Bool) (a : Act), DC md ops listed →
    takeD md ops late d qs listed = true → (d = false → qs ≠ [] → C w) → D₀ w → (DC md ops (listedBy listed qs) → ∀ a', R a' → wpAnyD P md ops Q C D₀ late fuel (listedBy listed qs) a' w) → wpQuiet P ops (if d then D₀ else C) R (pickOps ops qs) a → wpAnyD P md ops Q C D₀ late (fuel + qs.length) listed a w
  | [], _, _, hd, _, _, _, hR, h => hR hd _ h
  | i :: is, listed, a, hd, hB, hC, h0, hR, h => by
    simp only [takeD, Bool.and_eq_true] at hB
    obtain ⟨⟨⟨⟨hr, hf⟩, hl⟩, hn⟩, hrest⟩ := hB
    rcases hi : ops[i]? with _ | oi
    · rw [hi] at hl; simp at hl
    · rw [hi] at hl
      simp only [pickOps, hi] at h
      have hst : qOp P ops (if d then D₀ else C) i (wpQuiet P ops (if d then D₀ else C) R (pickOps ops is)) a := by unfold qOp; simp only [hi]; exact h
      obtain ⟨v, hy, hK⟩ := yieldsIn_of_qOp hi hst
      have next := wpAnyD_take hs hQ hCD d fuel is _ _ (hd.set (by simpa using hr)) hrest (fun h1 _ => hC h1 (by simp)) h0 hR hK
      cases d with
      | true =>
        exact wpAnyD_first (D := D₀) hi (by simpa using hl) (Region.noSelect_spec hs) hQ hCD (fuel + is.length) listed a w hd
          (fun j oj hoj hji hun hno => Region.free_spec hi hf j oj hoj hji hun hno) (.inl ⟨by simpa using hn, fun _ h => h⟩) (fun h => by simp [h] at hn) h0 (by simpa using hr) (by simpa using hy) h0 next
      | false =>
        simp only [Bool.false_eq_true, if_false, Bool.and_eq_true] at hn
        refine wpAnyD_first (D := C) hi (by simpa using hl) (Region.noSelect_spec hs) hQ (fun _ h => h) (fuel + is.length) listed a w hd
          (fun j oj hoj hji hun hno => Region.free_spec hi hf j oj hoj hji hun hno) (.inr fun j hlj => ?_) (fun _ => hC rfl (by simp)) h0 (by simpa using hr) (by simpa using hy) (hC rfl (by simp)) next
        have hw := hn.2
        unfold lateWaits at hw
        rcases Nat.lt_or_ge j listed.size with hj | hj
        · have := List.all_eq_true.1 hw j (List.mem_range.2 hj)
          simp only [hlj, Bool.not_true, Bool.false_or, Bool.or_eq_true] at this
          exact this.imp id fun h => ⟨_, h⟩
        · exact .inl (by simp [Array.getD, Nat.not_lt.2 hj])

theorem wpAnyD_plan (hs : Region.noSelect ops = true) (hQ : ∀ c (a : Act) w, ¬ Q (.panic c) a w) (hCD : ∀ w, C w → D₀ w) (fin : List Nat × List Nat) : ∀ (plan : List (List Nat × List Nat × Nat)) (bare : Bool) (listed : Array Bool) (a : Act) (w : World), DC md ops listed →
    planD md ops late fin bare plan listed = true → (bare = false → C w) → D₀ w → wpPlanD P ops Q C D₀ late fin plan a w → wpAnyD P md ops Q C D₀ late (planDLen fin plan) listed a w
  | [], bare, listed, a, w, hd, hB, hC, h0, h => by
    simp only [planD, Bool.and_eq_true] at hB
    obtain ⟨⟨⟨h1, h2⟩, h3⟩, h4⟩ := hB
    refine wpAnyD_take hs hQ hCD true (0 + fin.2.length) fin.1 listed a hd h1 (fun h => by cases h) h0 (fun hd' a1 ha1 => ?_) h
    refine wpAnyD_take hs hQ hCD false 0 fin.2 _ a1 hd' h2 (fun _ hne => ?_) h0 (fun _ a' ha => ⟨by simpa using h4, ha⟩) ha1
    cases bare with
    | true => simp at h3; exact absurd h3 hne
    | false => exact hC rfl
  | (ds, qs, e) :: rest, bare, listed, a, w, hd, hB, hC, h0, h => by
    simp only [planD, Bool.and_eq_true] at hB
    obtain ⟨⟨⟨⟨⟨h1, h2⟩, h3⟩, h4⟩, h5⟩, h6⟩ := hB
    refine wpAnyD_take hs hQ hCD true (planDLen fin rest + 1 + qs.length) ds listed a hd h1 (fun h => by cases h) h0 (fun hd' a1 ha1 => ?_) h
    refine wpAnyD_take hs hQ hCD false (planDLen fin rest + 1) qs _ a1 hd' h2 (fun _ hne => ?_) h0 (fun hd'' a' ha => ?_) ha1
    · cases bare with
      | true => simp at h3; exact absurd h3 hne
      | false => exact hC rfl
    have hre : Region.ready md ops (listedBy (listedBy listed ds) qs) = [e] := by simpa using h4
    refine ⟨fun h0 => (by rw [hre] at h0; cases h0), fun j hj => ?_⟩
    rw [hre] at hj
    obtain rfl : j = e := by simpa using hj
    exact wpOp_mono (fun a'' w'' ⟨g1, g2⟩ => ⟨g1, wpAnyD_plan hs hQ hCD fin rest _ _ a'' w'' (hd''.set (by rw [hre]; exact List.mem_singleton.2 rfl)) h6 g1.1 g1.2 g2⟩) ha

/-- **A DRAWN REGION BY A PLAN OF TWO CLASSES.** -/
theorem wp_region_two {id : Nat} {l : List Oper} {a : Act} {w : World} {Q : Exit → Act → World → Prop} (F G : World → Prop) (lates : List Nat) (plan : List (List Nat × List Nat × Nat)) (fin : List Nat × List Nat) (hm : P.follows .mixedOrders = true)
    (hB : (Region.noSelect l.toArray && planD .any l.toArray (fun i => lates.contains i) fin false plan (Array.replicate l.toArray.size false) && (planDLen fin plan == l.toArray.size)) = true) (hFG : ∀ w, F w → G w) (hF : F w.drew)
    (h : ∀ (X Y : Type) (W : X → World) (V : Y → World), Nonempty X → Nonempty Y → (∀ x, F (W x)) → (∀ w', F w' → ∃ x, w' = W x) → (∀ x, G (V x)) → (∀ w', G w' → ∃ x, w' = V x) →
      wpPlanD P l.toArray (NoPanic Q) (fun w' => ∃ x, w' = W x) (fun w' => ∃ x, w' = V x) (fun i => lates.contains i) fin plan a w.drew) : (Code.region id l.toArray true).wp P Q a w := by
  have h' := h {w' : World // F w'} {w' : World // G w'} (·.1) (·.1) ⟨⟨_, hF⟩⟩ ⟨⟨_, hFG _ hF⟩⟩ (fun x => x.2) (fun w' hw => ⟨⟨w', hw⟩, rfl⟩) (fun x => x.2) (fun w' hw => ⟨⟨w', hw⟩, rfl⟩)
  simp only [Bool.and_eq_true] at hB
  refine wp_region_noPanic (wp_region_any hm (wpAny_of_D _ _ _ _ (C := fun w' => ∃ x : {w' : World // F w'}, w' = x.1) (D₀ := fun w' => ∃ x : {w' : World // G w'}, w' = x.1) (late := fun i => lates.contains i) ?_))
  have := wpAnyD_plan hB.1.1 (fun _ _ _ h => h) (fun w' ⟨x, hx⟩ => ⟨⟨x.1, hFG _ x.2⟩, hx⟩) fin plan false _ a w.drew (fun k ok e _ hl => by simp [Array.getD] at hl) hB.1.2 (fun _ => ⟨⟨_, hF⟩, rfl⟩) ⟨⟨_, hFG _ hF⟩, rfl⟩ h'
  rw [show planDLen fin plan = l.toArray.size from by simpa using hB.2] at this
  exact this
end
end Go.Proofs.Ytihcbmkjfacooaa
