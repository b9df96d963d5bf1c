/- A region whose order is drawn: quiet operations are taken first, the others come in one forced order. -/
import Derived.Test.YtihcbmkjfacooaaProg
import Derived.Deep.Quiet
import Derived.OrdersHeld
import Derived.Deep.RegionHeld3
namespace Go.Proofs.Ytihcbmkjfacooaa
set_option linter.unusedVariables false
set_option linter.unusedSimpArgs false

section
variable {P : Program} {ops : Array Oper} {Q : Exit → Act → World → Prop} {C : World → Prop}

/-- Operation j is run with or without i's value in its temporary: the same, if the two are apart. -/
theorem wpOp_apart {j : Nat} {oi oj : Oper} {v : Value} (hj : ops[j]? = some oj) (hap : oi.apart ops oj = true) (hsj : ∀ cs b, oj.op ≠ .select cs b)
    (hQ : ∀ c (a : Act) w, ¬ Q (.panic c) a w) {I : Act → Prop} (hI : ∀ a u, I a → I (a.put oj.dst u)) (hD : ∀ a d, I a → I { a with defers := d :: a.defers })
    {K : Act → World → Prop} {a : Act} {w : World} (hy : I a) (h : wpOp P ops Q j K (a.put oi.dst v) w) :
    wpOp P ops Q j (fun a' w' => I a' ∧ K (a'.put oi.dst v) w') a w := by
  obtain ⟨h1, h2, _⟩ := Oper.apart_spec hap
  unfold wpOp at *
  simp only [hj] at *
  rw [wanted_put oj a oi.dst v h1] at h
  by_cases hw : Region.wanted oj (yielded ops a.tmps) = true
  · rw [if_pos hw] at h ⊢
    rcases h with h | ⟨hasks, hlets⟩
    · refine .inl ?_
      unfold Oper.wp at *
      rw [execOp_put oj hsj a oi.dst v h1] at h
      rcases hr : (execOp a.eval oj).run P w with ⟨n, w'⟩ | ⟨x, w'⟩ <;> rw [hr] at h
      · cases n <;> simp only [Oper.upon] at h ⊢
        case value u => exact ⟨hI _ _ hy, by rw [← Act.put_comm a v u h2]; exact h⟩
        case skip => exact ⟨hI _ _ hy, by rw [← Act.put_comm a v undef h2]; exact h⟩
        case defer d => exact ⟨hI _ _ (hD _ _ hy), by rw [← Act.put_comm _ v undef h2, ← Act.put_defers]; exact h⟩
        case enter f args =>
          exact Calls.mono h fun e w'' he => by
            cases e with
            | returned u => exact ⟨hI _ _ hy, by rw [← Act.put_comm a v u h2]; exact he⟩
            | panicked c => exact absurd he (hQ _ _ _)
            | outgrown => exact he
        case row row args => exact Rows.mono h fun u w'' he => ⟨hI _ _ hy, by rw [← Act.put_comm a v u h2]; exact he⟩
      · cases x <;> simp only [Oper.upon] at h ⊢
        exact absurd h (hQ _ _ _)
    · exact .inr ⟨by unfold Oper.asks at *; rw [execOp_put oj hsj a oi.dst v h1] at hasks; exact hasks, hlets⟩
  · rw [if_neg hw] at h ⊢
    exact ⟨hI _ _ hy, by rw [← Act.put_comm a v undef h2]; exact h⟩


/-- Operations that yield a value and enter no function. -/
def looks : Op → Bool
  | .move _ | .assign _ | .pick .. | .load .. | .nilCheck _ | .binOp .. | .unOp .. | .convert .. | .slice .. | .fieldAddr .. | .field .. | .indexAddr .. | .index .. | .extract .. | .build .. => true
  | .call { callee := .builtin .len, .. } | .call { callee := .builtin .cap, .. } | .call { callee := .builtin .min, .. } | .call { callee := .builtin .max, .. } => true
  | _ => false

theorem run_value (s : Sem Value) (w w' : World) (n : Next) (h : (do pure (Next.value (← s)) : Sem Next).run P w = .ok n w') : ∃ v, n = .value v := by
  rw [Sem.run_bind] at h
  rcases hr : s.run P w with ⟨v, w1⟩ | ⟨x, w1⟩ <;> rw [hr] at h
  · simp [Result.andThen, Sem.run, pure] at h; exact ⟨v, h.1.symm⟩
  · simp [Result.andThen] at h

theorem looks_value {o : Oper} (h : looks o.op = true) (ρ : Operand → Value) (w w' : World) (n : Next) (hr : (execOp ρ o).run P w = .ok n w') : ∃ v, n = .value v := by
  unfold execOp at hr
  unfold looks at h
  split at h <;> rename_i heq <;> first | (cases h; done) | (simp only [heq] at hr)
  case h_3 =>
    rw [Sem.run_bind] at hr
    rcases h1 : (asBool (ρ _)).run P w with ⟨v, w1⟩ | ⟨x, w1⟩ <;> rw [h1] at hr
    · simp [Result.andThen, Sem.run, pure] at hr; exact ⟨_, hr.1.symm⟩
    · simp [Result.andThen] at hr
  case h_5 =>
    split at hr
    all_goals first
      | (simp [pure, Sem.run] at hr; exact ⟨_, hr.1.symm⟩)
      | (simp [runtimePanic, goPanic, program, Sem.run, bind, Sem.bind, pure] at hr; done)
      | skip
    split at hr
    · simp [runtimePanic, goPanic, program, Sem.run, bind, Sem.bind, pure] at hr
    · rw [Sem.run_bind] at hr
      simp only [program, Sem.run, Result.andThen] at hr
      rw [Sem.run_bind] at hr
      rcases h1 : (nilAhead (P.types.size + Made.depth) _ _ _).run P w with ⟨v, w1⟩ | ⟨x, w1⟩ <;> rw [h1] at hr
      · simp only [Result.andThen] at hr
        split at hr
        · simp [unsupported, Sem.run, bind, Sem.bind] at hr
        · simp [pure, Sem.run] at hr; exact ⟨_, hr.1.symm⟩
      · simp [Result.andThen] at hr
    · simp [pure, Sem.run] at hr; exact ⟨_, hr.1.symm⟩
  all_goals first
    | exact run_value _ _ _ _ hr
    | (simp [pure, Sem.run] at hr; exact ⟨_, hr.1.symm⟩)

theorem quietAt_value {o : Oper} (h : looks o.op = true) {a : Act} {w : World} {v : Value} (hq : o.quietAt P a C w v) : (execOp a.eval o).run P w = .ok (.value v) w := by
  unfold Oper.quietAt at hq
  rcases hr : (execOp a.eval o).run P w with ⟨n, w'⟩ | ⟨x, w'⟩ <;> rw [hr] at hq
  · obtain ⟨u, rfl⟩ := looks_value h _ _ _ _ hr
    obtain ⟨h1, h2⟩ := hq
    rw [h1, h2]
  · exact hq.elim

/-- Whatever order is picked from here on; C holds behind every operation that is not late. -/
def wpAnyL (P : Program) (md : Region.Mode) (ops : Array Oper) (Q : Exit → Act → World → Prop) (C : World → Prop) (late : Nat → Bool) : Nat → Array Bool → Act → World → Prop
  | 0, listed, a, w => Region.ready md ops listed = [] ∧ Q .normal a w
  | fuel + 1, listed, a, w =>
    (Region.ready md ops listed = [] → Q .normal a w) ∧
    ∀ i ∈ Region.ready md ops listed, wpOp P ops Q i (fun a' w' => (late i = false → C w') ∧ wpAnyL P md ops Q C late fuel (listed.setIfInBounds i true) a' w') a w

variable {md : Region.Mode} {late : Nat → Bool}

theorem wpAny_of_late : ∀ (fuel : Nat) (listed : Array Bool) (a : Act) (w : World), wpAnyL P md ops Q C late fuel listed a w → wpAny P md ops Q fuel listed a w
  | 0, _, _, _, h => h
  | fuel + 1, _, _, _, h => ⟨h.1, fun i hi => wpOp_mono (fun a' w' h' => wpAny_of_late fuel _ a' w' h'.2) (h.2 i hi)⟩

theorem yieldsIf_wpOp {i : Nat} {o : Oper} {v : Value} {a : Act} (hi : ops[i]? = some o) (hl : looks o.op = true) (hy : YieldsIn P ops C o v a) {K : Act → World → Prop} {w : World} (hC : C w) (h : K (a.put o.dst v) w) : wpOp P ops Q i K a w := by
  unfold wpOp
  simp only [hi]
  rcases hy with ⟨hw, hv⟩ | ⟨hw, rfl⟩
  · rw [if_pos hw]
    refine .inl ?_
    unfold Oper.wp
    rw [quietAt_value hl (hv w hC)]
    exact h
  · rw [if_neg (by simp [hw])]; exact h

/-- What has come up has all come up that it waits for. -/
def DC (md : Region.Mode) (ops : Array Oper) (listed : Array Bool) : Prop :=
  ∀ (k : Nat) (ok : Oper) (e : Edge), ops[k]? = some ok → listed.getD k false = true → e ∈ ok.after → Region.binds md e = true → listed.getD e.on false = true

theorem DC.set {listed : Array Bool} {j : Nat} (h : DC md ops listed) (hj : j ∈ Region.ready md ops listed) : DC md ops (listed.setIfInBounds j true) := by
  intro k ok e hk hl he hb
  by_cases hjk : j = k
  · subst hjk
    obtain ⟨_, oj, hoj, hall⟩ := mem_ready.1 hj
    rw [hk] at hoj
    cases hoj
    exact getD_set_true (hall e he hb)
  · rw [getD_set_ne false hjk] at hl
    exact getD_set_true (h k ok e hk hl he hb)

/-- j waits for i, directly or through others. -/
def waitsB (md : Region.Mode) (ops : Array Oper) : Nat → Nat → Nat → Bool
  | 0, _, _ => false
  | n + 1, j, i => ((ops[j]?).map fun o => o.after.any fun e => Region.binds md e && (e.on == i || waitsB md ops n e.on i)).getD false

theorem waitsB_spec {n j i : Nat} (h : waitsB md ops (n + 1) j i = true) : ∃ oj, ops[j]? = some oj ∧ ∃ e ∈ oj.after, Region.binds md e = true ∧ (e.on = i ∨ waitsB md ops n e.on i = true) := by
  unfold waitsB at h
  rcases hj : ops[j]? with _ | oj
  · rw [hj] at h; simp at h
  · rw [hj] at h
    simp only [Option.map_some, Option.getD_some, Array.any_eq_true', Bool.and_eq_true, Bool.or_eq_true, beq_iff_eq] at h
    obtain ⟨e, he, hb, h⟩ := h
    exact ⟨oj, rfl, e, he, hb, h⟩

theorem waits_unlisted {listed : Array Bool} (h : DC md ops listed) {i : Nat} (hi : listed.getD i false = false) : ∀ (n j : Nat), waitsB md ops n j i = true → listed.getD j false = false
  | 0, _, h0 => by cases h0
  | n + 1, j, h0 => by
    obtain ⟨oj, hoj, e, he, hb, h1⟩ := waitsB_spec h0
    rcases hl : listed.getD j false with _ | _
    · rfl
    · have h2 := h j oj e hoj hl he hb
      rcases h1 with h1 | h1
      · rw [h1, hi] at h2; cases h2
      · rw [waits_unlisted h hi n _ h1] at h2; cases h2

theorem waits_not_ready {listed : Array Bool} (h : DC md ops listed) {i n j : Nat} (hi : listed.getD i false = false) (hw : waitsB md ops n j i = true) : j ∉ Region.ready md ops listed := by
  intro hj
  obtain ⟨_, oj, hoj, hall⟩ := mem_ready.1 hj
  cases n with
  | zero => cases hw
  | succ n =>
    obtain ⟨oj', hoj', e, he, hb, h1⟩ := waitsB_spec hw
    rw [hoj] at hoj'
    cases hoj'
    have h2 := hall e he hb
    rcases h1 with h1 | h1
    · rw [h1, hi] at h2; cases h2
    · rw [waits_unlisted h hi n _ h1] at h2; cases h2

/-- A quiet operation that may come up now may be taken first. D: the worlds in which it is quiet. -/
theorem wpAnyL_first {D : World → Prop} {i : Nat} {oi : Oper} {v : Value} (hi : ops[i]? = some oi) (hlk : looks oi.op = true) (hsel : ∀ (j : Nat) (o : Oper) cs b, ops[j]? = some o → o.op ≠ .select cs b)
    (hQ : ∀ c (a : Act) w, ¬ Q (.panic c) a w) (hCD : ∀ w, C w → D w) :
    ∀ (fuel : Nat) (listed : Array Bool) (a : Act) (w : World), DC md ops listed →
      (∀ j oj, ops[j]? = some oj → j ≠ i → listed.getD j true = false → (∀ e ∈ oj.after, Region.binds md e = true → e.on ≠ i) → oi.apart ops oj = true) →
      ((late i = true ∧ ∀ w, D w) ∨ ∀ j, late j = true → listed.getD j true = true ∨ ∃ n, waitsB md ops n j i = true) →
      (late i = false → C w) → i ∈ Region.ready md ops listed → YieldsIn P ops D oi v a → D w →
      wpAnyL P md ops Q C late fuel (listed.setIfInBounds i true) (a.put oi.dst v) w → wpAnyL P md ops Q C late (fuel + 1) listed a w := by
  intro fuel
  induction fuel with
  | zero =>
    intro listed a w _ _ _ hli hr hy hC H
    refine ⟨fun h => (by rw [h] at hr; cases hr), fun j hj => ?_⟩
    by_cases hji : j = i
    · subst hji; exact yieldsIf_wpOp hi hlk hy hC ⟨hli, H⟩
    · have := ready_mono hj hji
      rw [H.1] at this
      cases this
  | succ fuel ih =>
    intro listed a w hdc hfree hlate hli hr hy hC H
    refine ⟨fun h => (by rw [h] at hr; cases hr), fun j hj => ?_⟩
    by_cases hji : j = i
    · subst hji; exact yieldsIf_wpOp hi hlk hy hC ⟨hli, H⟩
    · have h1 := H.2 j (ready_mono hj hji)
      obtain ⟨hjun, oj, hoj, hall⟩ := mem_ready.1 hj
      have hun : listed.getD i false = false := by
        have h0 := (mem_ready.1 hr).1
        rcases Nat.lt_or_ge i listed.size with h' | h'
        · simpa [Array.getD, h'] using h0
        · simp [Array.getD, Nat.not_lt.2 h']
      have hnot : ∀ e ∈ oj.after, Region.binds md e = true → e.on ≠ i := fun e he hb heq => by
        have h2 := hall e he hb
        rw [heq, hun] at h2
        cases h2
      have hap := hfree j oj hoj hji hjun hnot
      have hlj : late j = false ∨ (late i = true ∧ ∀ w, D w) := by
        rcases hlate with h | h
        · exact .inr h
        · rcases hl : late j with _ | _
          · exact .inl rfl
          · rcases h j hl with h | ⟨n, h⟩
            · rw [hjun] at h; cases h
            · exact absurd hj (waits_not_ready hdc hun h)
      have hlate' : (late i = true ∧ ∀ w, D w) ∨ ∀ k, late k = true → (listed.setIfInBounds j true).getD k true = true ∨ ∃ n, waitsB md ops n k i = true := by
        refine hlate.imp id fun h k hk => (h k hk).imp (fun h' => ?_) id
        by_cases hjk : j = k
        · subst hjk; rw [hjun] at h'; cases h'
        · rw [getD_set_ne true hjk]; exact h'
      have hap3 := (Oper.apart_spec hap).2.2
      have h2 := wpOp_apart (I := YieldsIn P ops D oi v) hoj hap (fun cs b => hsel j oj cs b hoj) hQ
        (fun a u h => h.of_same (execOp_put oi (fun cs b => hsel i oi cs b hi) a oj.dst u hap3) (wanted_put oi a oj.dst u hap3)) (fun a d h => h.of_same rfl rfl) hy h1
      refine wpOp_mono (fun a' w' h3 => ⟨h3.2.1, ih (listed.setIfInBounds j true) a' w' (hdc.set hj) (fun k ok hk hki hun' hno => ?_) hlate' (fun hl => ?_) (ready_mono hr (Ne.symm hji)) h3.1 ?_ ?_⟩) h2
      · refine hfree k ok hk hki ?_ hno
        by_cases hjk : j = k
        · subst hjk; exact hjun
        · rw [getD_set_ne true hjk] at hun'; exact hun'
      · rcases hlj with h | ⟨h, _⟩
        · exact h3.2.1 h
        · rw [hl] at h; cases h
      · rcases hlj with h | ⟨_, h⟩
        · exact hCD _ (h3.2.1 h)
        · exact h _
      · rw [Array.setIfInBounds_comm _ _ hji]
        exact h3.2.2

def lateWaits (md : Region.Mode) (ops : Array Oper) (late : Nat → Bool) (listed : Array Bool) (i : Nat) : Bool :=
  (List.range listed.size).all fun j => !late j || listed.getD j true || waitsB md ops ops.size j i

def isMove : Op → Bool
  | .move _ => true
  | _ => false

theorem move_any {C : World → Prop} {o : Oper} {a : Act} {v : Value} (h : isMove o.op = true) {w₀ : World} (h₀ : C w₀) (hy : YieldsIn P ops C o v a) : YieldsIn P ops (fun _ => True) o v a := by
  rcases hy with ⟨hw, hv⟩ | h'
  · refine .inl ⟨hw, fun w _ => ?_⟩
    have h1 := hv w₀ h₀
    unfold isMove at h
    split at h
    · rename_i x heq
      unfold Oper.quietAt at *
      have e : ∀ w, (execOp a.eval o).run P w = .ok (.value (a.eval x)) w := fun w => by unfold execOp; simp only [heq]; rfl
      rw [e] at h1 ⊢
      exact ⟨rfl, h1.2⟩
    · cases h
  · exact .inr h'

/-- 'bare': behind a late operation: what is quiet there must be so in whatever world. -/
def takeB (md : Region.Mode) (ops : Array Oper) (late : Nat → Bool) (bare : Bool) : List Nat → Array Bool → Bool
  | [], _ => true
  | i :: is, listed => (Region.ready md ops listed).contains i && Region.free md ops listed i && ((ops[i]?).map (looks ·.op)).getD false && (if bare then late i else (late i && ((ops[i]?).map (isMove ·.op)).getD false) || (!late i && lateWaits md ops late listed i)) &&
      takeB md ops late bare is (listed.setIfInBounds i true)

def listedBy (listed : Array Bool) : List Nat → Array Bool
  | [] => listed
  | i :: is => listedBy (listed.setIfInBounds i true) is

def pickOps (ops : Array Oper) : List Nat → List Oper
  | [] => []
  | i :: is => match ops[i]? with
    | some o => o :: pickOps ops is
    | none => pickOps ops is

def planB (md : Region.Mode) (ops : Array Oper) (late : Nat → Bool) (fin : List Nat) : Bool → List (List Nat × Nat) → Array Bool → Bool
  | bare, [], listed => takeB md ops late bare fin listed && (Region.ready md ops (listedBy listed fin)).isEmpty
  | bare, (qs, e) :: rest, listed => takeB md ops late bare qs listed && (Region.ready md ops (listedBy listed qs) == [e]) && (!bare || late e) &&
      planB md ops late fin (late e) rest ((listedBy listed qs).setIfInBounds e true)

def planLen (fin : List Nat) : List (List Nat × Nat) → Nat
  | [] => fin.length
  | (qs, _) :: rest => (planLen fin rest + 1) + qs.length

def clsOf (C : World → Prop) (bare : Bool) : World → Prop := if bare then fun _ => True else C

/-- The walk of a plan: quiet operations, then one that is not, and so on. -/
def wpPlan (P : Program) (ops : Array Oper) (Q : Exit → Act → World → Prop) (C : World → Prop) (late : Nat → Bool) (fin : List Nat) : Bool → List (List Nat × Nat) → Act → World → Prop
  | bare, [], a, w => wpQuiet P ops (clsOf C bare) (fun a' => Q .normal a' w) (pickOps ops fin) a
  | bare, (qs, e) :: rest, a, w => wpQuiet P ops (clsOf C bare) (fun a' => wpOp P ops Q e (fun a'' w'' => (late e = false → C w'') ∧ wpPlan P ops Q C late fin (late e) rest a'' w'') a' w) (pickOps ops qs) a

theorem wpAnyL_take (hs : Region.noSelect ops = true) (hQ : ∀ c (a : Act) w, ¬ Q (.panic c) a w) {w : World} {R : Act → Prop} (bare : Bool) (fuel : Nat) : ∀ (qs : List Nat) (listed : Array Bool) (a : Act), DC md ops listed →
    takeB md ops late bare qs listed = true → (bare = false → C w) → (DC md ops (listedBy listed qs) → ∀ a', R a' → wpAnyL P md ops Q C late fuel (listedBy listed qs) a' w) → wpQuiet P ops (clsOf C bare) R (pickOps ops qs) a → wpAnyL P md ops Q C late (fuel + qs.length) listed a w
  | [], _, _, hd, _, _, hR, h => hR hd _ h
  | i :: is, listed, a, hd, hB, hC, hR, h => by
    simp only [takeB, Bool.and_eq_true] at hB
    obtain ⟨⟨⟨⟨hr, hf⟩, hl⟩, hn⟩, hrest⟩ := hB
    rcases hi : ops[i]? with _ | oi
    · rw [hi] at hl; simp at hl
    · rw [hi] at hl
      simp only [pickOps, hi] at h
      have hst : qOp P ops (clsOf C bare) i (wpQuiet P ops (clsOf C bare) R (pickOps ops is)) a := by unfold qOp; simp only [hi]; exact h
      obtain ⟨v, hy, hK⟩ := yieldsIn_of_qOp hi hst
      have next := wpAnyL_take hs hQ bare fuel is _ _ (hd.set (by simpa using hr)) hrest hC hR hK
      cases bare with
      | true =>
        exact wpAnyL_first (D := clsOf C true) hi (by simpa using hl) (Region.noSelect_spec hs) hQ (fun _ _ => trivial) (fuel + is.length) listed a w hd
          (fun j oj hoj hji hun hno => Region.free_spec hi hf j oj hoj hji hun hno) (.inl ⟨by simpa using hn, fun _ => trivial⟩) (fun h => by simp [h] at hn) (by simpa using hr) hy trivial next
      | false =>
        simp only [Bool.false_eq_true, if_false, Bool.or_eq_true, Bool.and_eq_true] at hn
        rcases hn with ⟨hn, hmv⟩ | hn
        · rw [hi] at hmv
          exact wpAnyL_first (D := fun _ => True) hi (by simpa using hl) (Region.noSelect_spec hs) hQ (fun _ _ => trivial) (fuel + is.length) listed a w hd
            (fun j oj hoj hji hun hno => Region.free_spec hi hf j oj hoj hji hun hno) (.inl ⟨hn, fun _ => trivial⟩) (fun h => by simp [h] at hn) (by simpa using hr) (move_any (by simpa using hmv) (hC rfl) hy) trivial next
        refine wpAnyL_first (D := clsOf C false) hi (by simpa using hl) (Region.noSelect_spec hs) hQ (fun _ h => h) (fuel + is.length) listed a w hd
          (fun j oj hoj hji hun hno => Region.free_spec hi hf j oj hoj hji hun hno) (.inr fun j hlj => ?_) (fun _ => hC rfl) (by simpa using hr) hy (hC rfl) next
        have hw := hn.2
        unfold lateWaits at hw
        rcases Nat.lt_or_ge j listed.size with hj | hj
        · have := List.all_eq_true.1 hw j (List.mem_range.2 hj)
          simp only [hlj, Bool.not_true, Bool.false_or, Bool.or_eq_true] at this
          exact this.imp id fun h => ⟨_, h⟩
        · exact .inl (by simp [Array.getD, Nat.not_lt.2 hj])

theorem wpAnyL_plan (hs : Region.noSelect ops = true) (hQ : ∀ c (a : Act) w, ¬ Q (.panic c) a w) (fin : List Nat) : ∀ (plan : List (List Nat × Nat)) (bare : Bool) (listed : Array Bool) (a : Act) (w : World), DC md ops listed →
    planB md ops late fin bare plan listed = true → (bare = false → C w) → wpPlan P ops Q C late fin bare plan a w → wpAnyL P md ops Q C late (planLen fin plan) listed a w
  | [], bare, listed, a, w, hd, hB, hC, h => by
    simp only [planB, Bool.and_eq_true] at hB
    have := wpAnyL_take (md := md) (late := late) (C := C) hs hQ (w := w) (R := fun a' => Q .normal a' w) bare 0 fin listed a hd hB.1 hC (fun _ a' ha => ⟨by simpa using hB.2, ha⟩) h
    simpa [planLen] using this
  | (qs, e) :: rest, bare, listed, a, w, hd, hB, hC, h => by
    simp only [planB, Bool.and_eq_true] at hB
    obtain ⟨⟨⟨h1, h2⟩, h3⟩, h4⟩ := hB
    refine wpAnyL_take hs hQ bare (planLen fin rest + 1) qs listed a hd h1 hC (fun hd' a' ha => ?_) h
    have hre : Region.ready md ops (listedBy listed qs) = [e] := by simpa using h2
    refine ⟨fun h0 => (by rw [hre] at h0; cases h0), fun j hj => ?_⟩
    rw [hre] at hj
    obtain rfl : j = e := by simpa using hj
    exact wpOp_mono (fun a'' w'' ⟨g1, g2⟩ => ⟨g1, wpAnyL_plan hs hQ fin rest _ _ a'' w'' (hd'.set (by rw [hre]; exact List.mem_singleton.2 rfl)) h4 g1 g2⟩) ha

/-- **A DRAWN REGION BY A PLAN.** -/
theorem wp_region_plan {id : Nat} {l : List Oper} {a : Act} {w : World} {Q : Exit → Act → World → Prop} (C : World → Prop) (lates : List Nat) (plan : List (List Nat × Nat)) (fin : List Nat) (hm : P.follows .mixedOrders = true)
    (hB : (Region.noSelect l.toArray && planB .any l.toArray (fun i => lates.contains i) fin false plan (Array.replicate l.toArray.size false) && (planLen fin plan == l.toArray.size)) = true) (hC : C w.drew)
    (h : wpPlan P l.toArray (NoPanic Q) C (fun i => lates.contains i) fin false plan a w.drew) : (Code.region id l.toArray true).wp P Q a w := by
  simp only [Bool.and_eq_true] at hB
  refine wp_region_noPanic (wp_region_any hm (wpAny_of_late _ _ _ _ (C := C) (late := fun i => lates.contains i) ?_))
  have := wpAnyL_plan hB.1.1 (fun _ _ _ h => h) fin plan false _ a w.drew (fun k ok e _ hl => by simp [Array.getD] at hl) hB.1.2 (fun _ => hC) h
  rw [show planLen fin plan = l.toArray.size from by simpa using hB.2] at this
  exact this

/-- The same with the class as whatever worlds W that meet F. -/
theorem wp_region_by {id : Nat} {l : List Oper} {a : Act} {w : World} {Q : Exit → Act → World → Prop} (F : World → Prop) (lates : List Nat) (plan : List (List Nat × Nat)) (fin : List Nat) (hm : P.follows .mixedOrders = true)
    (hB : (Region.noSelect l.toArray && planB .any l.toArray (fun i => lates.contains i) fin false plan (Array.replicate l.toArray.size false) && (planLen fin plan == l.toArray.size)) = true) (hF : F w.drew)
    (h : ∀ (X : Type) (W : X → World), Nonempty X → (∀ x, F (W x)) → (∀ w', F w' → ∃ x, w' = W x) → wpPlan P l.toArray (NoPanic Q) (fun w' => ∃ x, w' = W x) (fun i => lates.contains i) fin false plan a w.drew) : (Code.region id l.toArray true).wp P Q a w :=
  wp_region_plan (fun w' => ∃ x : {w' : World // F w'}, w' = x.1) lates plan fin hm hB ⟨⟨_, hF⟩, rfl⟩ (h _ _ ⟨⟨_, hF⟩⟩ (fun x => x.2) fun w' hw => ⟨⟨w', hw⟩, rfl⟩)

/-- At the operation that is not quiet. -/
theorem wpOp_at {e : Nat} {o : Oper} {K₀ : Act → World → Prop} {a : Act} {w : World} (ho : ops[e]? = some o) (hg : o.guard = none) (h : ∀ K : Act → World → Prop, (∀ a w, K₀ a w → K a w) → o.wp P a w K Q) : wpOp P ops Q e K₀ a w := by
  unfold wpOp
  simp only [ho, Region.wanted, hg, if_true]
  exact .inl (h _ fun _ _ h => h)

end
end Go.Proofs.Ytihcbmkjfacooaa
