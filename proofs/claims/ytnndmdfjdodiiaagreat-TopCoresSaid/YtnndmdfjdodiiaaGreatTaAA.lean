/- What the walks are told of arguments: integers, fractions, slices. A region whose order is drawn: quiet operations are taken first, the others come in one forced order. A region whose order is drawn, by a plan with two classes of worlds: C, until a late operation has come; D₀, all the way. A region whose order is drawn, by a plan that parts where two operations are free. At a guarded operation of a region whose order is drawn. Contracts of package frac's small functions: size, gcd, Check, Make. Plain walks over the program. What frac.Make answers: plain definitions and lemmas. Wide whole numbers in memory: what a block must hold to be one; what a call may change; plain lemmas on worlds. Contracts of the wide numbers' small methods. Contracts of the wide numbers: making them of machine numbers. Contracts of the wide numbers: reading them. Contracts of the wide numbers: copying them. Contracts of the wide numbers: sign, quotient, common divisor. Contracts of the wide numbers: common divisor, quotient; of machine size. Wide fractions in memory: what they are; making them, their numerator and denominator. Wide fractions: numerator, denominator; FracOf, FracMade. Fractions of the program: what the operations answer, and what they mean in Lean's own fractions. What the walks are told of arguments that are slices of integers. A block that holds integers: a []int of the program's own. slices.Reverse over it. Appending: what the walks need, for whatever element type. Rows of the call's own; integers. Rows of the call's own whose elements have several cells (the part of OwnG that needs no fractions). -/
import Derived.Test.YtnndmdfjdodiiaaGreatProg
import Derived.WalkKit
import Derived.ProofKit
import Derived.OpenShut
import Derived.Lib.SmallJoins
import Derived.Deep.Quiet
import Derived.OrdersHeld
import Derived.Deep.RegionHeld3
import Derived.WalkSpells
import Derived.Handy
import Derived.Deep.QuietTactic
import Derived.BigQuiet
import Derived.Lib.Hide
import Derived.WalkSmall
import Derived.Deep.AppendLies
import Derived.Deep.RegionLawGrows
import Derived.Maps.AppendAt
namespace Go.Proofs.YtnndmdfjdodiiaaGreat
open Go.ChangeShapes Go.WideShapes Go.ChangeAt Go.RowKit Go.Joins
set_option linter.unusedVariables false
set_option linter.unusedSimpArgs false

/-- A number of 64 bits. -/
def I64 (x : Int) : Prop := -9223372036854775808 ≤ x ∧ x ≤ 9223372036854775807

theorem i64_of_wf {x : Int} (h : (Lit.int .i64 x).wf = true) : I64 x := by
  have := bounds_i64 h
  unfold I64
  omega

section
variable {H : Type} {enc : TypeId × Value → H} {W : World} {base : Nat} {d : DataW H} {p : List MemPlace} {v : Value}

set_option maxRecDepth 100000 in
theorem in_int (hv : Value.okWide Tryz.prog W .any base 3 v) (h : DataW.Trod enc Tryz.prog W 0 (fun _ => true) true 3 v d p) : ∃ x : Int, v = .int .i64 x ∧ I64 x := by
  obtain ⟨a, rfl, _, _, w⟩ := open_int Tryz.underlying3 hv h
  exact ⟨a, rfl, i64_of_wf w⟩

end

end Go.Proofs.YtnndmdfjdodiiaaGreat

namespace Go.Proofs.YtnndmdfjdodiiaaGreat
set_option linter.unusedVariables false
set_option linter.unusedSimpArgs false

section
variable {P : Program} {ops : Array Oper} {Q : Exit → Act → World → Prop} {C : World → Prop}

/-- Operation j is run with or without i's value in its temporary: the same, if the two are apart. -/
theorem wpOp_apart {j : Nat} {oi oj : Oper} {v : Value} (hj : ops[j]? = some oj) (hap : oi.apart ops oj = true) (hsj : ∀ cs b, oj.op ≠ .select cs b)
    (hQ : ∀ c (a : Act) w, ¬ Q (.panic c) a w) {I : Act → Prop} (hI : ∀ a u, I a → I (a.put oj.dst u)) (hD : ∀ a d, I a → I { a with defers := d :: a.defers })
    {K : Act → World → Prop} {a : Act} {w : World} (hy : I a) (h : wpOp P ops Q j K (a.put oi.dst v) w) :
    wpOp P ops Q j (fun a' w' => I a' ∧ K (a'.put oi.dst v) w') a w := by
  obtain ⟨h1, h2, _⟩ := Oper.apart_spec hap
  unfold wpOp at *
  simp only [hj] at *
  rw [wanted_put oj a oi.dst v h1] at h
  by_cases hw : Region.wanted oj (yielded ops a.tmps) = true
  · rw [if_pos hw] at h ⊢
    rcases h with h | ⟨hasks, hlets⟩
    · refine .inl ?_
      unfold Oper.wp at *
      rw [execOp_put oj hsj a oi.dst v h1] at h
      rcases hr : (execOp a.eval oj).run P w with ⟨n, w'⟩ | ⟨x, w'⟩ <;> rw [hr] at h
      · cases n <;> simp only [Oper.upon] at h ⊢
        case value u => exact ⟨hI _ _ hy, by rw [← Act.put_comm a v u h2]; exact h⟩
        case skip => exact ⟨hI _ _ hy, by rw [← Act.put_comm a v undef h2]; exact h⟩
        case defer d => exact ⟨hI _ _ (hD _ _ hy), by rw [← Act.put_comm _ v undef h2, ← Act.put_defers]; exact h⟩
        case enter f args =>
          exact Calls.mono h fun e w'' he => by
            cases e with
            | returned u => exact ⟨hI _ _ hy, by rw [← Act.put_comm a v u h2]; exact he⟩
            | panicked c => exact absurd he (hQ _ _ _)
            | outgrown => exact he
        case row row args => exact Rows.mono h fun u w'' he => ⟨hI _ _ hy, by rw [← Act.put_comm a v u h2]; exact he⟩
      · cases x <;> simp only [Oper.upon] at h ⊢
        exact absurd h (hQ _ _ _)
    · exact .inr ⟨by unfold Oper.asks at *; rw [execOp_put oj hsj a oi.dst v h1] at hasks; exact hasks, hlets⟩
  · rw [if_neg hw] at h ⊢
    exact ⟨hI _ _ hy, by rw [← Act.put_comm a v undef h2]; exact h⟩


/-- Operations that yield a value and enter no function. -/
def looks : Op → Bool
  | .move _ | .assign _ | .pick .. | .load .. | .nilCheck _ | .binOp .. | .unOp .. | .convert .. | .slice .. | .fieldAddr .. | .field .. | .indexAddr .. | .index .. | .extract .. | .build .. => true
  | .call { callee := .builtin .len, .. } | .call { callee := .builtin .cap, .. } | .call { callee := .builtin .min, .. } | .call { callee := .builtin .max, .. } => true
  | _ => false

theorem run_value (s : Sem Value) (w w' : World) (n : Next) (h : (do pure (Next.value (← s)) : Sem Next).run P w = .ok n w') : ∃ v, n = .value v := by
  rw [Sem.run_bind] at h
  rcases hr : s.run P w with ⟨v, w1⟩ | ⟨x, w1⟩ <;> rw [hr] at h
  · simp [Result.andThen, Sem.run, pure] at h; exact ⟨v, h.1.symm⟩
  · simp [Result.andThen] at h

theorem looks_value {o : Oper} (h : looks o.op = true) (ρ : Operand → Value) (w w' : World) (n : Next) (hr : (execOp ρ o).run P w = .ok n w') : ∃ v, n = .value v := by
  unfold execOp at hr
  unfold looks at h
  split at h <;> rename_i heq <;> first | (cases h; done) | (simp only [heq] at hr)
  case h_3 =>
    rw [Sem.run_bind] at hr
    rcases h1 : (asBool (ρ _)).run P w with ⟨v, w1⟩ | ⟨x, w1⟩ <;> rw [h1] at hr
    · simp [Result.andThen, Sem.run, pure] at hr; exact ⟨_, hr.1.symm⟩
    · simp [Result.andThen] at hr
  case h_5 =>
    split at hr
    all_goals first
      | (simp [pure, Sem.run] at hr; exact ⟨_, hr.1.symm⟩)
      | (simp [runtimePanic, goPanic, program, Sem.run, bind, Sem.bind, pure] at hr; done)
      | skip
    split at hr
    · simp [runtimePanic, goPanic, program, Sem.run, bind, Sem.bind, pure] at hr
    · rw [Sem.run_bind] at hr
      simp only [program, Sem.run, Result.andThen] at hr
      rw [Sem.run_bind] at hr
      rcases h1 : (nilAhead (P.types.size + Made.depth) _ _ _).run P w with ⟨v, w1⟩ | ⟨x, w1⟩ <;> rw [h1] at hr
      · simp only [Result.andThen] at hr
        split at hr
        · simp [unsupported, Sem.run, bind, Sem.bind] at hr
        · simp [pure, Sem.run] at hr; exact ⟨_, hr.1.symm⟩
      · simp [Result.andThen] at hr
    · simp [pure, Sem.run] at hr; exact ⟨_, hr.1.symm⟩
  all_goals first
    | exact run_value _ _ _ _ hr
    | (simp [pure, Sem.run] at hr; exact ⟨_, hr.1.symm⟩)

theorem quietAt_value {o : Oper} (h : looks o.op = true) {a : Act} {w : World} {v : Value} (hq : o.quietAt P a C w v) : (execOp a.eval o).run P w = .ok (.value v) w := by
  unfold Oper.quietAt at hq
  rcases hr : (execOp a.eval o).run P w with ⟨n, w'⟩ | ⟨x, w'⟩ <;> rw [hr] at hq
  · obtain ⟨u, rfl⟩ := looks_value h _ _ _ _ hr
    obtain ⟨h1, h2⟩ := hq
    rw [h1, h2]
  · exact hq.elim

/-- Whatever order is picked from here on; C holds behind every operation that is not late. -/
def wpAnyL (P : Program) (md : Region.Mode) (ops : Array Oper) (Q : Exit → Act → World → Prop) (C : World → Prop) (late : Nat → Bool) : Nat → Array Bool → Act → World → Prop
  | 0, listed, a, w => Region.ready md ops listed = [] ∧ Q .normal a w
  | fuel + 1, listed, a, w =>
    (Region.ready md ops listed = [] → Q .normal a w) ∧
    ∀ i ∈ Region.ready md ops listed, wpOp P ops Q i (fun a' w' => (late i = false → C w') ∧ wpAnyL P md ops Q C late fuel (listed.setIfInBounds i true) a' w') a w

variable {md : Region.Mode} {late : Nat → Bool}

theorem wpAny_of_late : ∀ (fuel : Nat) (listed : Array Bool) (a : Act) (w : World), wpAnyL P md ops Q C late fuel listed a w → wpAny P md ops Q fuel listed a w
  | 0, _, _, _, h => h
  | fuel + 1, _, _, _, h => ⟨h.1, fun i hi => wpOp_mono (fun a' w' h' => wpAny_of_late fuel _ a' w' h'.2) (h.2 i hi)⟩

theorem yieldsIf_wpOp {i : Nat} {o : Oper} {v : Value} {a : Act} (hi : ops[i]? = some o) (hl : looks o.op = true) (hy : YieldsIn P ops C o v a) {K : Act → World → Prop} {w : World} (hC : C w) (h : K (a.put o.dst v) w) : wpOp P ops Q i K a w := by
  unfold wpOp
  simp only [hi]
  rcases hy with ⟨hw, hv⟩ | ⟨hw, rfl⟩
  · rw [if_pos hw]
    refine .inl ?_
    unfold Oper.wp
    rw [quietAt_value hl (hv w hC)]
    exact h
  · rw [if_neg (by simp [hw])]; exact h

/-- What has come up has all come up that it waits for. -/
def DC (md : Region.Mode) (ops : Array Oper) (listed : Array Bool) : Prop :=
  ∀ (k : Nat) (ok : Oper) (e : Edge), ops[k]? = some ok → listed.getD k false = true → e ∈ ok.after → Region.binds md e = true → listed.getD e.on false = true

theorem DC.set {listed : Array Bool} {j : Nat} (h : DC md ops listed) (hj : j ∈ Region.ready md ops listed) : DC md ops (listed.setIfInBounds j true) := by
  intro k ok e hk hl he hb
  by_cases hjk : j = k
  · subst hjk
    obtain ⟨_, oj, hoj, hall⟩ := mem_ready.1 hj
    rw [hk] at hoj
    cases hoj
    exact getD_set_true (hall e he hb)
  · rw [getD_set_ne false hjk] at hl
    exact getD_set_true (h k ok e hk hl he hb)

/-- j waits for i, directly or through others. -/
def waitsB (md : Region.Mode) (ops : Array Oper) : Nat → Nat → Nat → Bool
  | 0, _, _ => false
  | n + 1, j, i => ((ops[j]?).map fun o => o.after.any fun e => Region.binds md e && (e.on == i || waitsB md ops n e.on i)).getD false

theorem waitsB_spec {n j i : Nat} (h : waitsB md ops (n + 1) j i = true) : ∃ oj, ops[j]? = some oj ∧ ∃ e ∈ oj.after, Region.binds md e = true ∧ (e.on = i ∨ waitsB md ops n e.on i = true) := by
  unfold waitsB at h
  rcases hj : ops[j]? with _ | oj
  · rw [hj] at h; simp at h
  · rw [hj] at h
    simp only [Option.map_some, Option.getD_some, Array.any_eq_true', Bool.and_eq_true, Bool.or_eq_true, beq_iff_eq] at h
    obtain ⟨e, he, hb, h⟩ := h
    exact ⟨oj, rfl, e, he, hb, h⟩

theorem waits_unlisted {listed : Array Bool} (h : DC md ops listed) {i : Nat} (hi : listed.getD i false = false) : ∀ (n j : Nat), waitsB md ops n j i = true → listed.getD j false = false
  | 0, _, h0 => by cases h0
  | n + 1, j, h0 => by
    obtain ⟨oj, hoj, e, he, hb, h1⟩ := waitsB_spec h0
    rcases hl : listed.getD j false with _ | _
    · rfl
    · have h2 := h j oj e hoj hl he hb
      rcases h1 with h1 | h1
      · rw [h1, hi] at h2; cases h2
      · rw [waits_unlisted h hi n _ h1] at h2; cases h2

theorem waits_not_ready {listed : Array Bool} (h : DC md ops listed) {i n j : Nat} (hi : listed.getD i false = false) (hw : waitsB md ops n j i = true) : j ∉ Region.ready md ops listed := by
  intro hj
  obtain ⟨_, oj, hoj, hall⟩ := mem_ready.1 hj
  cases n with
  | zero => cases hw
  | succ n =>
    obtain ⟨oj', hoj', e, he, hb, h1⟩ := waitsB_spec hw
    rw [hoj] at hoj'
    cases hoj'
    have h2 := hall e he hb
    rcases h1 with h1 | h1
    · rw [h1, hi] at h2; cases h2
    · rw [waits_unlisted h hi n _ h1] at h2; cases h2

/-- A quiet operation that may come up now may be taken first. D: the worlds in which it is quiet. -/
theorem wpAnyL_first {D : World → Prop} {i : Nat} {oi : Oper} {v : Value} (hi : ops[i]? = some oi) (hlk : looks oi.op = true) (hsel : ∀ (j : Nat) (o : Oper) cs b, ops[j]? = some o → o.op ≠ .select cs b)
    (hQ : ∀ c (a : Act) w, ¬ Q (.panic c) a w) (hCD : ∀ w, C w → D w) :
    ∀ (fuel : Nat) (listed : Array Bool) (a : Act) (w : World), DC md ops listed →
      (∀ j oj, ops[j]? = some oj → j ≠ i → listed.getD j true = false → (∀ e ∈ oj.after, Region.binds md e = true → e.on ≠ i) → oi.apart ops oj = true) →
      ((late i = true ∧ ∀ w, D w) ∨ ∀ j, late j = true → listed.getD j true = true ∨ ∃ n, waitsB md ops n j i = true) →
      (late i = false → C w) → i ∈ Region.ready md ops listed → YieldsIn P ops D oi v a → D w →
      wpAnyL P md ops Q C late fuel (listed.setIfInBounds i true) (a.put oi.dst v) w → wpAnyL P md ops Q C late (fuel + 1) listed a w := by
  intro fuel
  induction fuel with
  | zero =>
    intro listed a w _ _ _ hli hr hy hC H
    refine ⟨fun h => (by rw [h] at hr; cases hr), fun j hj => ?_⟩
    by_cases hji : j = i
    · subst hji; exact yieldsIf_wpOp hi hlk hy hC ⟨hli, H⟩
    · have := ready_mono hj hji
      rw [H.1] at this
      cases this
  | succ fuel ih =>
    intro listed a w hdc hfree hlate hli hr hy hC H
    refine ⟨fun h => (by rw [h] at hr; cases hr), fun j hj => ?_⟩
    by_cases hji : j = i
    · subst hji; exact yieldsIf_wpOp hi hlk hy hC ⟨hli, H⟩
    · have h1 := H.2 j (ready_mono hj hji)
      obtain ⟨hjun, oj, hoj, hall⟩ := mem_ready.1 hj
      have hun : listed.getD i false = false := by
        have h0 := (mem_ready.1 hr).1
        rcases Nat.lt_or_ge i listed.size with h' | h'
        · simpa [Array.getD, h'] using h0
        · simp [Array.getD, Nat.not_lt.2 h']
      have hnot : ∀ e ∈ oj.after, Region.binds md e = true → e.on ≠ i := fun e he hb heq => by
        have h2 := hall e he hb
        rw [heq, hun] at h2
        cases h2
      have hap := hfree j oj hoj hji hjun hnot
      have hlj : late j = false ∨ (late i = true ∧ ∀ w, D w) := by
        rcases hlate with h | h
        · exact .inr h
        · rcases hl : late j with _ | _
          · exact .inl rfl
          · rcases h j hl with h | ⟨n, h⟩
            · rw [hjun] at h; cases h
            · exact absurd hj (waits_not_ready hdc hun h)
      have hlate' : (late i = true ∧ ∀ w, D w) ∨ ∀ k, late k = true → (listed.setIfInBounds j true).getD k true = true ∨ ∃ n, waitsB md ops n k i = true := by
        refine hlate.imp id fun h k hk => (h k hk).imp (fun h' => ?_) id
        by_cases hjk : j = k
        · subst hjk; rw [hjun] at h'; cases h'
        · rw [getD_set_ne true hjk]; exact h'
      have hap3 := (Oper.apart_spec hap).2.2
      have h2 := wpOp_apart (I := YieldsIn P ops D oi v) hoj hap (fun cs b => hsel j oj cs b hoj) hQ
        (fun a u h => h.of_same (execOp_put oi (fun cs b => hsel i oi cs b hi) a oj.dst u hap3) (wanted_put oi a oj.dst u hap3)) (fun a d h => h.of_same rfl rfl) hy h1
      refine wpOp_mono (fun a' w' h3 => ⟨h3.2.1, ih (listed.setIfInBounds j true) a' w' (hdc.set hj) (fun k ok hk hki hun' hno => ?_) hlate' (fun hl => ?_) (ready_mono hr (Ne.symm hji)) h3.1 ?_ ?_⟩) h2
      · refine hfree k ok hk hki ?_ hno
        by_cases hjk : j = k
        · subst hjk; exact hjun
        · rw [getD_set_ne true hjk] at hun'; exact hun'
      · rcases hlj with h | ⟨h, _⟩
        · exact h3.2.1 h
        · rw [hl] at h; cases h
      · rcases hlj with h | ⟨_, h⟩
        · exact hCD _ (h3.2.1 h)
        · exact h _
      · rw [Array.setIfInBounds_comm _ _ hji]
        exact h3.2.2

def lateWaits (md : Region.Mode) (ops : Array Oper) (late : Nat → Bool) (listed : Array Bool) (i : Nat) : Bool :=
  (List.range listed.size).all fun j => !late j || listed.getD j true || waitsB md ops ops.size j i

def isMove : Op → Bool
  | .move _ => true
  | _ => false

theorem move_any {C : World → Prop} {o : Oper} {a : Act} {v : Value} (h : isMove o.op = true) {w₀ : World} (h₀ : C w₀) (hy : YieldsIn P ops C o v a) : YieldsIn P ops (fun _ => True) o v a := by
  rcases hy with ⟨hw, hv⟩ | h'
  · refine .inl ⟨hw, fun w _ => ?_⟩
    have h1 := hv w₀ h₀
    unfold isMove at h
    split at h
    · rename_i x heq
      unfold Oper.quietAt at *
      have e : ∀ w, (execOp a.eval o).run P w = .ok (.value (a.eval x)) w := fun w => by unfold execOp; simp only [heq]; rfl
      rw [e] at h1 ⊢
      exact ⟨rfl, h1.2⟩
    · cases h
  · exact .inr h'

/-- 'bare': behind a late operation: what is quiet there must be so in whatever world. -/
def takeB (md : Region.Mode) (ops : Array Oper) (late : Nat → Bool) (bare : Bool) : List Nat → Array Bool → Bool
  | [], _ => true
  | i :: is, listed => (Region.ready md ops listed).contains i && Region.free md ops listed i && ((ops[i]?).map (looks ·.op)).getD false && (if bare then late i else (late i && ((ops[i]?).map (isMove ·.op)).getD false) || (!late i && lateWaits md ops late listed i)) &&
      takeB md ops late bare is (listed.setIfInBounds i true)

def listedBy (listed : Array Bool) : List Nat → Array Bool
  | [] => listed
  | i :: is => listedBy (listed.setIfInBounds i true) is

def pickOps (ops : Array Oper) : List Nat → List Oper
  | [] => []
  | i :: is => match ops[i]? with
    | some o => o :: pickOps ops is
    | none => pickOps ops is

def planB (md : Region.Mode) (ops : Array Oper) (late : Nat → Bool) (fin : List Nat) : Bool → List (List Nat × Nat) → Array Bool → Bool
  | bare, [], listed => takeB md ops late bare fin listed && (Region.ready md ops (listedBy listed fin)).isEmpty
  | bare, (qs, e) :: rest, listed => takeB md ops late bare qs listed && (Region.ready md ops (listedBy listed qs) == [e]) && (!bare || late e) &&
      planB md ops late fin (late e) rest ((listedBy listed qs).setIfInBounds e true)

def planLen (fin : List Nat) : List (List Nat × Nat) → Nat
  | [] => fin.length
  | (qs, _) :: rest => (planLen fin rest + 1) + qs.length

def clsOf (C : World → Prop) (bare : Bool) : World → Prop := if bare then fun _ => True else C

/-- The walk of a plan: quiet operations, then one that is not, and so on. -/
def wpPlan (P : Program) (ops : Array Oper) (Q : Exit → Act → World → Prop) (C : World → Prop) (late : Nat → Bool) (fin : List Nat) : Bool → List (List Nat × Nat) → Act → World → Prop
  | bare, [], a, w => wpQuiet P ops (clsOf C bare) (fun a' => Q .normal a' w) (pickOps ops fin) a
  | bare, (qs, e) :: rest, a, w => wpQuiet P ops (clsOf C bare) (fun a' => wpOp P ops Q e (fun a'' w'' => (late e = false → C w'') ∧ wpPlan P ops Q C late fin (late e) rest a'' w'') a' w) (pickOps ops qs) a

theorem wpAnyL_take (hs : Region.noSelect ops = true) (hQ : ∀ c (a : Act) w, ¬ Q (.panic c) a w) {w : World} {R : Act → Prop} (bare : Bool) (fuel : Nat) : ∀ (qs : List Nat) (listed : Array Bool) (a : Act), DC md ops listed →
    takeB md ops late bare qs listed = true → (bare = false → C w) → (DC md ops (listedBy listed qs) → ∀ a', R a' → wpAnyL P md ops Q C late fuel (listedBy listed qs) a' w) → wpQuiet P ops (clsOf C bare) R (pickOps ops qs) a → wpAnyL P md ops Q C late (fuel + qs.length) listed a w
  | [], _, _, hd, _, _, hR, h => hR hd _ h
  | i :: is, listed, a, hd, hB, hC, hR, h => by
    simp only [takeB, Bool.and_eq_true] at hB
    obtain ⟨⟨⟨⟨hr, hf⟩, hl⟩, hn⟩, hrest⟩ := hB
    rcases hi : ops[i]? with _ | oi
    · rw [hi] at hl; simp at hl
    · rw [hi] at hl
      simp only [pickOps, hi] at h
      have hst : qOp P ops (clsOf C bare) i (wpQuiet P ops (clsOf C bare) R (pickOps ops is)) a := by unfold qOp; simp only [hi]; exact h
      obtain ⟨v, hy, hK⟩ := yieldsIn_of_qOp hi hst
      have next := wpAnyL_take hs hQ bare fuel is _ _ (hd.set (by simpa using hr)) hrest hC hR hK
      cases bare with
      | true =>
        exact wpAnyL_first (D := clsOf C true) hi (by simpa using hl) (Region.noSelect_spec hs) hQ (fun _ _ => trivial) (fuel + is.length) listed a w hd
          (fun j oj hoj hji hun hno => Region.free_spec hi hf j oj hoj hji hun hno) (.inl ⟨by simpa using hn, fun _ => trivial⟩) (fun h => by simp [h] at hn) (by simpa using hr) hy trivial next
      | false =>
        simp only [Bool.false_eq_true, if_false, Bool.or_eq_true, Bool.and_eq_true] at hn
        rcases hn with ⟨hn, hmv⟩ | hn
        · rw [hi] at hmv
          exact wpAnyL_first (D := fun _ => True) hi (by simpa using hl) (Region.noSelect_spec hs) hQ (fun _ _ => trivial) (fuel + is.length) listed a w hd
            (fun j oj hoj hji hun hno => Region.free_spec hi hf j oj hoj hji hun hno) (.inl ⟨hn, fun _ => trivial⟩) (fun h => by simp [h] at hn) (by simpa using hr) (move_any (by simpa using hmv) (hC rfl) hy) trivial next
        refine wpAnyL_first (D := clsOf C false) hi (by simpa using hl) (Region.noSelect_spec hs) hQ (fun _ h => h) (fuel + is.length) listed a w hd
          (fun j oj hoj hji hun hno => Region.free_spec hi hf j oj hoj hji hun hno) (.inr fun j hlj => ?_) (fun _ => hC rfl) (by simpa using hr) hy (hC rfl) next
        have hw := hn.2
        unfold lateWaits at hw
        rcases Nat.lt_or_ge j listed.size with hj | hj
        · have := List.all_eq_true.1 hw j (List.mem_range.2 hj)
          simp only [hlj, Bool.not_true, Bool.false_or, Bool.or_eq_true] at this
          exact this.imp id fun h => ⟨_, h⟩
        · exact .inl (by simp [Array.getD, Nat.not_lt.2 hj])

theorem wpAnyL_plan (hs : Region.noSelect ops = true) (hQ : ∀ c (a : Act) w, ¬ Q (.panic c) a w) (fin : List Nat) : ∀ (plan : List (List Nat × Nat)) (bare : Bool) (listed : Array Bool) (a : Act) (w : World), DC md ops listed →
    planB md ops late fin bare plan listed = true → (bare = false → C w) → wpPlan P ops Q C late fin bare plan a w → wpAnyL P md ops Q C late (planLen fin plan) listed a w
  | [], bare, listed, a, w, hd, hB, hC, h => by
    simp only [planB, Bool.and_eq_true] at hB
    have := wpAnyL_take (md := md) (late := late) (C := C) hs hQ (w := w) (R := fun a' => Q .normal a' w) bare 0 fin listed a hd hB.1 hC (fun _ a' ha => ⟨by simpa using hB.2, ha⟩) h
    simpa [planLen] using this
  | (qs, e) :: rest, bare, listed, a, w, hd, hB, hC, h => by
    simp only [planB, Bool.and_eq_true] at hB
    obtain ⟨⟨⟨h1, h2⟩, h3⟩, h4⟩ := hB
    refine wpAnyL_take hs hQ bare (planLen fin rest + 1) qs listed a hd h1 hC (fun hd' a' ha => ?_) h
    have hre : Region.ready md ops (listedBy listed qs) = [e] := by simpa using h2
    refine ⟨fun h0 => (by rw [hre] at h0; cases h0), fun j hj => ?_⟩
    rw [hre] at hj
    obtain rfl : j = e := by simpa using hj
    exact wpOp_mono (fun a'' w'' ⟨g1, g2⟩ => ⟨g1, wpAnyL_plan hs hQ fin rest _ _ a'' w'' (hd'.set (by rw [hre]; exact List.mem_singleton.2 rfl)) h4 g1 g2⟩) ha

/-- **A DRAWN REGION BY A PLAN.** -/
theorem wp_region_plan {id : Nat} {l : List Oper} {a : Act} {w : World} {Q : Exit → Act → World → Prop} (C : World → Prop) (lates : List Nat) (plan : List (List Nat × Nat)) (fin : List Nat) (hm : P.follows .mixedOrders = true)
    (hB : (Region.noSelect l.toArray && planB .any l.toArray (fun i => lates.contains i) fin false plan (Array.replicate l.toArray.size false) && (planLen fin plan == l.toArray.size)) = true) (hC : C w.drew)
    (h : wpPlan P l.toArray (NoPanic Q) C (fun i => lates.contains i) fin false plan a w.drew) : (Code.region id l.toArray true).wp P Q a w := by
  simp only [Bool.and_eq_true] at hB
  refine wp_region_noPanic (wp_region_any hm (wpAny_of_late _ _ _ _ (C := C) (late := fun i => lates.contains i) ?_))
  have := wpAnyL_plan hB.1.1 (fun _ _ _ h => h) fin plan false _ a w.drew (fun k ok e _ hl => by simp [Array.getD] at hl) hB.1.2 (fun _ => hC) h
  rw [show planLen fin plan = l.toArray.size from by simpa using hB.2] at this
  exact this

/-- The same with the class as whatever worlds W that meet F. -/
theorem wp_region_by {id : Nat} {l : List Oper} {a : Act} {w : World} {Q : Exit → Act → World → Prop} (F : World → Prop) (lates : List Nat) (plan : List (List Nat × Nat)) (fin : List Nat) (hm : P.follows .mixedOrders = true)
    (hB : (Region.noSelect l.toArray && planB .any l.toArray (fun i => lates.contains i) fin false plan (Array.replicate l.toArray.size false) && (planLen fin plan == l.toArray.size)) = true) (hF : F w.drew)
    (h : ∀ (X : Type) (W : X → World), Nonempty X → (∀ x, F (W x)) → (∀ w', F w' → ∃ x, w' = W x) → wpPlan P l.toArray (NoPanic Q) (fun w' => ∃ x, w' = W x) (fun i => lates.contains i) fin false plan a w.drew) : (Code.region id l.toArray true).wp P Q a w :=
  wp_region_plan (fun w' => ∃ x : {w' : World // F w'}, w' = x.1) lates plan fin hm hB ⟨⟨_, hF⟩, rfl⟩ (h _ _ ⟨⟨_, hF⟩⟩ (fun x => x.2) fun w' hw => ⟨⟨w', hw⟩, rfl⟩)

/-- At the operation that is not quiet. -/
theorem wpOp_at {e : Nat} {o : Oper} {K₀ : Act → World → Prop} {a : Act} {w : World} (ho : ops[e]? = some o) (hg : o.guard = none) (h : ∀ K : Act → World → Prop, (∀ a w, K₀ a w → K a w) → o.wp P a w K Q) : wpOp P ops Q e K₀ a w := by
  unfold wpOp
  simp only [ho, Region.wanted, hg, if_true]
  exact .inl (h _ fun _ _ h => h)
theorem wpAt {l : List Oper} {e : Nat} {o : Oper} {K₀ : Act → World → Prop} {a : Act} {w : World} (ho : l[e]? = some o) (hg : o.guard = none) (h : ∀ K : Act → World → Prop, (∀ a w, K₀ a w → K a w) → o.wp P a w K Q) : wpOp P l.toArray Q e K₀ a w := wpOp_at (by simpa using ho) hg h

end
end Go.Proofs.YtnndmdfjdodiiaaGreat

namespace Go.Proofs.YtnndmdfjdodiiaaGreat
set_option linter.unusedVariables false
set_option linter.unusedSimpArgs false

section
variable {P : Program} {ops : Array Oper} {Q : Exit → Act → World → Prop} {C D₀ : World → Prop}

def wpAnyD (P : Program) (md : Region.Mode) (ops : Array Oper) (Q : Exit → Act → World → Prop) (C D₀ : World → Prop) (late : Nat → Bool) : Nat → Array Bool → Act → World → Prop
  | 0, listed, a, w => Region.ready md ops listed = [] ∧ Q .normal a w
  | fuel + 1, listed, a, w =>
    (Region.ready md ops listed = [] → Q .normal a w) ∧
    ∀ i ∈ Region.ready md ops listed, wpOp P ops Q i (fun a' w' => ((late i = false → C w') ∧ D₀ w') ∧ wpAnyD P md ops Q C D₀ late fuel (listed.setIfInBounds i true) a' w') a w

variable {md : Region.Mode} {late : Nat → Bool}

theorem wpAny_of_D : ∀ (fuel : Nat) (listed : Array Bool) (a : Act) (w : World), wpAnyD P md ops Q C D₀ late fuel listed a w → wpAny P md ops Q fuel listed a w
  | 0, _, _, _, h => h
  | fuel + 1, _, _, _, h => ⟨h.1, fun i hi => wpOp_mono (fun a' w' h' => wpAny_of_D fuel _ a' w' h'.2) (h.2 i hi)⟩

theorem wpAnyD_first {D : World → Prop} {i : Nat} {oi : Oper} {v : Value} (hi : ops[i]? = some oi) (hlk : looks oi.op = true) (hsel : ∀ (j : Nat) (o : Oper) cs b, ops[j]? = some o → o.op ≠ .select cs b)
    (hQ : ∀ c (a : Act) w, ¬ Q (.panic c) a w) (hCD : ∀ w, C w → D w) :
    ∀ (fuel : Nat) (listed : Array Bool) (a : Act) (w : World), DC md ops listed →
      (∀ j oj, ops[j]? = some oj → j ≠ i → listed.getD j true = false → (∀ e ∈ oj.after, Region.binds md e = true → e.on ≠ i) → oi.apart ops oj = true) →
      ((late i = true ∧ ∀ w, D₀ w → D w) ∨ ∀ j, late j = true → listed.getD j true = true ∨ ∃ n, waitsB md ops n j i = true) →
      (late i = false → C w) → D₀ w → i ∈ Region.ready md ops listed → YieldsIn P ops D oi v a → D w →
      wpAnyD P md ops Q C D₀ late fuel (listed.setIfInBounds i true) (a.put oi.dst v) w → wpAnyD P md ops Q C D₀ late (fuel + 1) listed a w := by
  intro fuel
  induction fuel with
  | zero =>
    intro listed a w _ _ _ hli h0D hr hy hC H
    refine ⟨fun h => (by rw [h] at hr; cases hr), fun j hj => ?_⟩
    by_cases hji : j = i
    · subst hji; exact yieldsIf_wpOp hi hlk hy hC ⟨⟨hli, h0D⟩, H⟩
    · have := ready_mono hj hji
      rw [H.1] at this
      cases this
  | succ fuel ih =>
    intro listed a w hdc hfree hlate hli h0D hr hy hC H
    refine ⟨fun h => (by rw [h] at hr; cases hr), fun j hj => ?_⟩
    by_cases hji : j = i
    · subst hji; exact yieldsIf_wpOp hi hlk hy hC ⟨⟨hli, h0D⟩, H⟩
    · have h1 := H.2 j (ready_mono hj hji)
      obtain ⟨hjun, oj, hoj, hall⟩ := mem_ready.1 hj
      have hun : listed.getD i false = false := by
        have h0 := (mem_ready.1 hr).1
        rcases Nat.lt_or_ge i listed.size with h' | h'
        · simpa [Array.getD, h'] using h0
        · simp [Array.getD, Nat.not_lt.2 h']
      have hnot : ∀ e ∈ oj.after, Region.binds md e = true → e.on ≠ i := fun e he hb heq => by
        have h2 := hall e he hb
        rw [heq, hun] at h2
        cases h2
      have hap := hfree j oj hoj hji hjun hnot
      have hlj : late j = false ∨ (late i = true ∧ ∀ w, D₀ w → D w) := by
        rcases hlate with h | h
        · exact .inr h
        · rcases hl : late j with _ | _
          · exact .inl rfl
          · rcases h j hl with h | ⟨n, h⟩
            · rw [hjun] at h; cases h
            · exact absurd hj (waits_not_ready hdc hun h)
      have hlate' : (late i = true ∧ ∀ w, D₀ w → D w) ∨ ∀ k, late k = true → (listed.setIfInBounds j true).getD k true = true ∨ ∃ n, waitsB md ops n k i = true := by
        refine hlate.imp id fun h k hk => (h k hk).imp (fun h' => ?_) id
        by_cases hjk : j = k
        · subst hjk; rw [hjun] at h'; cases h'
        · rw [getD_set_ne true hjk]; exact h'
      have hap3 := (Oper.apart_spec hap).2.2
      have h2 := wpOp_apart (I := YieldsIn P ops D oi v) hoj hap (fun cs b => hsel j oj cs b hoj) hQ
        (fun a u h => h.of_same (execOp_put oi (fun cs b => hsel i oi cs b hi) a oj.dst u hap3) (wanted_put oi a oj.dst u hap3)) (fun a d h => h.of_same rfl rfl) hy h1
      refine wpOp_mono (fun a' w' h3 => ⟨h3.2.1, ih (listed.setIfInBounds j true) a' w' (hdc.set hj) (fun k ok hk hki hun' hno => ?_) hlate' (fun hl => ?_) h3.2.1.2 (ready_mono hr (Ne.symm hji)) h3.1 ?_ ?_⟩) h2
      · refine hfree k ok hk hki ?_ hno
        by_cases hjk : j = k
        · subst hjk; exact hjun
        · rw [getD_set_ne true hjk] at hun'; exact hun'
      · rcases hlj with h | ⟨h, _⟩
        · exact h3.2.1.1 h
        · rw [hl] at h; cases h
      · rcases hlj with h | ⟨_, h⟩
        · exact hCD _ (h3.2.1.1 h)
        · exact h _ h3.2.1.2
      · rw [Array.setIfInBounds_comm _ _ hji]
        exact h3.2.2

def takeD (md : Region.Mode) (ops : Array Oper) (late : Nat → Bool) (d : Bool) : List Nat → Array Bool → Bool
  | [], _ => true
  | i :: is, listed => (Region.ready md ops listed).contains i && Region.free md ops listed i && ((ops[i]?).map (looks ·.op)).getD false && (if d then late i else (!late i && lateWaits md ops late listed i)) &&
      takeD md ops late d is (listed.setIfInBounds i true)

def planD (md : Region.Mode) (ops : Array Oper) (late : Nat → Bool) (fin : List Nat × List Nat) : Bool → List (List Nat × List Nat × Nat) → Array Bool → Bool
  | bare, [], listed => takeD md ops late true fin.1 listed && takeD md ops late false fin.2 (listedBy listed fin.1) && (!bare || fin.2.isEmpty) && (Region.ready md ops (listedBy (listedBy listed fin.1) fin.2)).isEmpty
  | bare, (ds, qs, e) :: rest, listed => takeD md ops late true ds listed && takeD md ops late false qs (listedBy listed ds) && (!bare || qs.isEmpty) && (Region.ready md ops (listedBy (listedBy listed ds) qs) == [e]) && (!bare || late e) &&
      planD md ops late fin (late e) rest ((listedBy (listedBy listed ds) qs).setIfInBounds e true)

def planDLen (fin : List Nat × List Nat) : List (List Nat × List Nat × Nat) → Nat
  | [] => 0 + fin.2.length + fin.1.length
  | (ds, qs, _) :: rest => planDLen fin rest + 1 + qs.length + ds.length

def wpPlanD (P : Program) (ops : Array Oper) (Q : Exit → Act → World → Prop) (C D₀ : World → Prop) (late : Nat → Bool) (fin : List Nat × List Nat) : List (List Nat × List Nat × Nat) → Act → World → Prop
  | [], a, w => wpQuiet P ops D₀ (fun a1 => wpQuiet P ops C (fun a' => Q .normal a' w) (pickOps ops fin.2) a1) (pickOps ops fin.1) a
  | (ds, qs, e) :: rest, a, w => wpQuiet P ops D₀ (fun a1 => wpQuiet P ops C (fun a' => wpOp P ops Q e (fun a'' w'' => ((late e = false → C w'') ∧ D₀ w'') ∧ wpPlanD P ops Q C D₀ late fin rest a'' w'') a' w) (pickOps ops qs) a1) (pickOps ops ds) a

theorem wpAnyD_take (hs : Region.noSelect ops = true) (hQ : ∀ c (a : Act) w, ¬ Q (.panic c) a w) (hCD : ∀ w, C w → D₀ w) {w : World} {R : Act → Prop} (d : Bool) (fuel : Nat) : ∀ (qs : List Nat) (listed : Array Bool) (a : Act), DC md ops listed →
    takeD md ops late d qs listed = true → (d = false → qs ≠ [] → C w) → D₀ w → (DC md ops (listedBy listed qs) → ∀ a', R a' → wpAnyD P md ops Q C D₀ late fuel (listedBy listed qs) a' w) → wpQuiet P ops (if d then D₀ else C) R (pickOps ops qs) a → wpAnyD P md ops Q C D₀ late (fuel + qs.length) listed a w
  | [], _, _, hd, _, _, _, hR, h => hR hd _ h
  | i :: is, listed, a, hd, hB, hC, h0, hR, h => by
    simp only [takeD, Bool.and_eq_true] at hB
    obtain ⟨⟨⟨⟨hr, hf⟩, hl⟩, hn⟩, hrest⟩ := hB
    rcases hi : ops[i]? with _ | oi
    · rw [hi] at hl; simp at hl
    · rw [hi] at hl
      simp only [pickOps, hi] at h
      have hst : qOp P ops (if d then D₀ else C) i (wpQuiet P ops (if d then D₀ else C) R (pickOps ops is)) a := by unfold qOp; simp only [hi]; exact h
      obtain ⟨v, hy, hK⟩ := yieldsIn_of_qOp hi hst
      have next := wpAnyD_take hs hQ hCD d fuel is _ _ (hd.set (by simpa using hr)) hrest (fun h1 _ => hC h1 (by simp)) h0 hR hK
      cases d with
      | true =>
        exact wpAnyD_first (D := D₀) hi (by simpa using hl) (Region.noSelect_spec hs) hQ hCD (fuel + is.length) listed a w hd
          (fun j oj hoj hji hun hno => Region.free_spec hi hf j oj hoj hji hun hno) (.inl ⟨by simpa using hn, fun _ h => h⟩) (fun h => by simp [h] at hn) h0 (by simpa using hr) (by simpa using hy) h0 next
      | false =>
        simp only [Bool.false_eq_true, if_false, Bool.and_eq_true] at hn
        refine wpAnyD_first (D := C) hi (by simpa using hl) (Region.noSelect_spec hs) hQ (fun _ h => h) (fuel + is.length) listed a w hd
          (fun j oj hoj hji hun hno => Region.free_spec hi hf j oj hoj hji hun hno) (.inr fun j hlj => ?_) (fun _ => hC rfl (by simp)) h0 (by simpa using hr) (by simpa using hy) (hC rfl (by simp)) next
        have hw := hn.2
        unfold lateWaits at hw
        rcases Nat.lt_or_ge j listed.size with hj | hj
        · have := List.all_eq_true.1 hw j (List.mem_range.2 hj)
          simp only [hlj, Bool.not_true, Bool.false_or, Bool.or_eq_true] at this
          exact this.imp id fun h => ⟨_, h⟩
        · exact .inl (by simp [Array.getD, Nat.not_lt.2 hj])

theorem wpAnyD_plan (hs : Region.noSelect ops = true) (hQ : ∀ c (a : Act) w, ¬ Q (.panic c) a w) (hCD : ∀ w, C w → D₀ w) (fin : List Nat × List Nat) : ∀ (plan : List (List Nat × List Nat × Nat)) (bare : Bool) (listed : Array Bool) (a : Act) (w : World), DC md ops listed →
    planD md ops late fin bare plan listed = true → (bare = false → C w) → D₀ w → wpPlanD P ops Q C D₀ late fin plan a w → wpAnyD P md ops Q C D₀ late (planDLen fin plan) listed a w
  | [], bare, listed, a, w, hd, hB, hC, h0, h => by
    simp only [planD, Bool.and_eq_true] at hB
    obtain ⟨⟨⟨h1, h2⟩, h3⟩, h4⟩ := hB
    refine wpAnyD_take hs hQ hCD true (0 + fin.2.length) fin.1 listed a hd h1 (fun h => by cases h) h0 (fun hd' a1 ha1 => ?_) h
    refine wpAnyD_take hs hQ hCD false 0 fin.2 _ a1 hd' h2 (fun _ hne => ?_) h0 (fun _ a' ha => ⟨by simpa using h4, ha⟩) ha1
    cases bare with
    | true => simp at h3; exact absurd h3 hne
    | false => exact hC rfl
  | (ds, qs, e) :: rest, bare, listed, a, w, hd, hB, hC, h0, h => by
    simp only [planD, Bool.and_eq_true] at hB
    obtain ⟨⟨⟨⟨⟨h1, h2⟩, h3⟩, h4⟩, h5⟩, h6⟩ := hB
    refine wpAnyD_take hs hQ hCD true (planDLen fin rest + 1 + qs.length) ds listed a hd h1 (fun h => by cases h) h0 (fun hd' a1 ha1 => ?_) h
    refine wpAnyD_take hs hQ hCD false (planDLen fin rest + 1) qs _ a1 hd' h2 (fun _ hne => ?_) h0 (fun hd'' a' ha => ?_) ha1
    · cases bare with
      | true => simp at h3; exact absurd h3 hne
      | false => exact hC rfl
    have hre : Region.ready md ops (listedBy (listedBy listed ds) qs) = [e] := by simpa using h4
    refine ⟨fun h0 => (by rw [hre] at h0; cases h0), fun j hj => ?_⟩
    rw [hre] at hj
    obtain rfl : j = e := by simpa using hj
    exact wpOp_mono (fun a'' w'' ⟨g1, g2⟩ => ⟨g1, wpAnyD_plan hs hQ hCD fin rest _ _ a'' w'' (hd''.set (by rw [hre]; exact List.mem_singleton.2 rfl)) h6 g1.1 g1.2 g2⟩) ha

/-- **A DRAWN REGION BY A PLAN OF TWO CLASSES.** -/
theorem wp_region_two {id : Nat} {l : List Oper} {a : Act} {w : World} {Q : Exit → Act → World → Prop} (F G : World → Prop) (lates : List Nat) (plan : List (List Nat × List Nat × Nat)) (fin : List Nat × List Nat) (hm : P.follows .mixedOrders = true)
    (hB : (Region.noSelect l.toArray && planD .any l.toArray (fun i => lates.contains i) fin false plan (Array.replicate l.toArray.size false) && (planDLen fin plan == l.toArray.size)) = true) (hFG : ∀ w, F w → G w) (hF : F w.drew)
    (h : ∀ (X Y : Type) (W : X → World) (V : Y → World), Nonempty X → Nonempty Y → (∀ x, F (W x)) → (∀ w', F w' → ∃ x, w' = W x) → (∀ x, G (V x)) → (∀ w', G w' → ∃ x, w' = V x) →
      wpPlanD P l.toArray (NoPanic Q) (fun w' => ∃ x, w' = W x) (fun w' => ∃ x, w' = V x) (fun i => lates.contains i) fin plan a w.drew) : (Code.region id l.toArray true).wp P Q a w := by
  have h' := h {w' : World // F w'} {w' : World // G w'} (·.1) (·.1) ⟨⟨_, hF⟩⟩ ⟨⟨_, hFG _ hF⟩⟩ (fun x => x.2) (fun w' hw => ⟨⟨w', hw⟩, rfl⟩) (fun x => x.2) (fun w' hw => ⟨⟨w', hw⟩, rfl⟩)
  simp only [Bool.and_eq_true] at hB
  refine wp_region_noPanic (wp_region_any hm (wpAny_of_D _ _ _ _ (C := fun w' => ∃ x : {w' : World // F w'}, w' = x.1) (D₀ := fun w' => ∃ x : {w' : World // G w'}, w' = x.1) (late := fun i => lates.contains i) ?_))
  have := wpAnyD_plan hB.1.1 (fun _ _ _ h => h) (fun w' ⟨x, hx⟩ => ⟨⟨x.1, hFG _ x.2⟩, hx⟩) fin plan false _ a w.drew (fun k ok e _ hl => by simp [Array.getD] at hl) hB.1.2 (fun _ => ⟨⟨_, hF⟩, rfl⟩) ⟨⟨_, hFG _ hF⟩, rfl⟩ h'
  rw [show planDLen fin plan = l.toArray.size from by simpa using hB.2] at this
  exact this
end
end Go.Proofs.YtnndmdfjdodiiaaGreat

namespace Go.Proofs.YtnndmdfjdodiiaaGreat
set_option linter.unusedVariables false
set_option linter.unusedSimpArgs false
section
variable {P : Program} {ops : Array Oper} {Q : Exit → Act → World → Prop} {C : World → Prop} {md : Region.Mode}
end
end Go.Proofs.YtnndmdfjdodiiaaGreat

namespace Go.Proofs.YtnndmdfjdodiiaaGreat
section
variable {P : Program} {ops : Array Oper} {Q : Exit → Act → World → Prop}
theorem wpOp_wanted {e : Nat} {o : Oper} {K₀ : Act → World → Prop} {a : Act} {w : World} (ho : ops[e]? = some o) (hw : Region.wanted o (yielded ops a.tmps) = true) (h : ∀ K : Act → World → Prop, (∀ a w, K₀ a w → K a w) → o.wp P a w K Q) : wpOp P ops Q e K₀ a w := by
  unfold wpOp
  simp only [ho, hw, if_true]
  exact .inl (h _ fun _ _ h => h)
theorem wpWa {l : List Oper} {e : Nat} {o : Oper} {K₀ : Act → World → Prop} {a : Act} {w : World} (ho : l[e]? = some o) (hw : Region.wanted o (yielded l.toArray a.tmps) = true) (h : ∀ K : Act → World → Prop, (∀ a w, K₀ a w → K a w) → o.wp P a w K Q) : wpOp P l.toArray Q e K₀ a w := wpOp_wanted (by simpa using ho) hw h
theorem wpOp_unwanted {e : Nat} {o : Oper} {K₀ : Act → World → Prop} {a : Act} {w : World} (ho : ops[e]? = some o) (hw : Region.wanted o (yielded ops a.tmps) = false) (h : K₀ (a.put o.dst undef) w) : wpOp P ops Q e K₀ a w := by
  unfold wpOp
  simp only [ho, hw, Bool.false_eq_true, if_false]
  exact h
end
end Go.Proofs.YtnndmdfjdodiiaaGreat

namespace Go.Proofs.YtnndmdfjdodiiaaGreat
open Go.ChangeShapes Go.WideShapes Go.RowKit
set_option linter.unusedVariables false
set_option linter.unusedSimpArgs false
theorem size_neg_eq (x : Int) (h1 : x < 0) (h2 : -9223372036854775808 ≤ x) : IntKind.u64.wrap (-IntKind.u64.wrap x) = (x.natAbs : Nat) := by
  simp only [IntKind.wrap, IntKind.bits, IntKind.signed]
  simp
  omega

/-- A fraction is valid. -/
def FracOK (n d : Int) : Prop := 1 ≤ d ∧ d ≤ 1073741824 ∧ -1073741824 ≤ n ∧ n ≤ 1073741824 ∧ Nat.gcd n.natAbs d.natAbs = 1

instance (n d : Int) : Decidable (FracOK n d) := by unfold FracOK; infer_instance

theorem dec_f {p : Prop} [Decidable p] (h : ¬ p) : decide p = false := by simp [h]
theorem dec_t {p : Prop} [Decidable p] (h : p) : decide p = true := by simp [h]

end Go.Proofs.YtnndmdfjdodiiaaGreat

namespace Go.Proofs.YtnndmdfjdodiiaaGreat
open Go.ChangeShapes Go.WideShapes Go.RowKit
set_option linter.unusedVariables false
set_option linter.unusedSimpArgs false

/-- The parts of num/den in lowest terms, without signs. -/
def mA (num den : Int) : Nat := num.natAbs / Nat.gcd num.natAbs den.natAbs
def mB (num den : Int) : Nat := den.natAbs / Nat.gcd num.natAbs den.natAbs
def mFits (num den : Int) : Prop := mA num den ≤ 1073741824 ∧ mB num den ≤ 1073741824
instance (num den : Int) : Decidable (mFits num den) := by unfold mFits; infer_instance
theorem wrap_u64 (n : Nat) (h : n < 18446744073709551616) : IntKind.u64.wrap (n : Int) = n := by
  simp only [IntKind.wrap, IntKind.bits, IntKind.signed]
  simp
  omega

end Go.Proofs.YtnndmdfjdodiiaaGreat

namespace Go.Proofs.YtnndmdfjdodiiaaGreat
open Go.ChangeShapes Go.WideShapes Go.RowKit
set_option linter.unusedVariables false
set_option linter.unusedSimpArgs false

/-! ### digits -/
def dval : List Nat → Nat
  | [] => 0
  | d :: ds => d + 4294967296 * dval ds

theorem dval_append (a b : List Nat) : dval (a ++ b) = dval a + 4294967296 ^ a.length * dval b := by
  induction a with
  | nil => simp [dval]
  | cons d a ih => simp only [List.cons_append, dval, ih, List.length_cons, Nat.pow_succ]; rw [Nat.mul_add, Nat.add_assoc, ← Nat.mul_assoc, Nat.mul_comm 4294967296 (4294967296 ^ a.length)]

theorem dval_take_succ (ds : List Nat) (k : Nat) (h : k < ds.length) : dval (ds.take (k + 1)) = dval (ds.take k) + 4294967296 ^ k * ds.getD k 0 := by
  rw [List.take_succ_eq_append_getElem h, dval_append]
  simp only [List.length_take, dval, Nat.mul_zero, Nat.add_zero]
  rw [Nat.min_eq_left (by omega)]
  congr 2
  simp [List.getD, h]

/-- No noughts at the end. -/
def NoEnd (ds : List Nat) : Prop := ds = [] ∨ ds.getD (ds.length - 1) 0 ≠ 0

theorem dval_ge (ds : List Nat) (h : NoEnd ds) (h0 : ds ≠ []) : 4294967296 ^ (ds.length - 1) ≤ dval ds := by
  have hl : 0 < ds.length := List.length_pos_iff.2 h0
  have e := dval_take_succ ds (ds.length - 1) (by omega)
  rw [show ds.length - 1 + 1 = ds.length from by omega, List.take_length] at e
  rcases h with h | h
  · exact absurd h h0
  · rw [e]
    have : 4294967296 ^ (ds.length - 1) * 1 ≤ 4294967296 ^ (ds.length - 1) * ds.getD (ds.length - 1) 0 := Nat.mul_le_mul_left _ (by omega)
    omega

/-- The bound of all numbers here, in digits. -/
def LEN : Nat := 65536
attribute [irreducible] LEN
def BIG : Nat := 4294967296 ^ LEN

attribute [irreducible] BIG

def sgn (neg : Bool) (n : Nat) : Int := if neg then -(n : Int) else n

theorem natAbs_sgn (neg : Bool) (n : Nat) : (sgn neg n).natAbs = n := by cases neg <;> simp [sgn]

/-! ### what a call may change -/
/-- From w to w' only cells in S (block, offset) of what was there have changed; no block went; the streams are the same. -/
structure Keep (S : Nat → Nat → Prop) (w w' : World) : Prop where
  os : w'.os = w.os
  tape : w'.tape = w.tape
  output : w'.output = w.output
  size : w.heap.size ≤ w'.heap.size
  block : ∀ k, k < w.heap.size → (∀ o, ¬ S k o) → w'.heap[k]? = w.heap[k]?
  cells : ∀ k c t fr, w.heap[k]? = some (.cells c t fr) → ∃ c', w'.heap[k]? = some (.cells c' t fr) ∧ c'.size = c.size ∧ ∀ i, ¬ S k i → c'[i]? = c[i]?

def NoS : Nat → Nat → Prop := fun _ _ => False
/-- The two cells of a whole number at block b, offset o. -/
def At (b o : Nat) : Nat → Nat → Prop := fun k i => k = b ∧ (i = o ∨ i = o + 1)

theorem lt_of_heap {w : World} {k : Nat} {o : Obj} (h : w.heap[k]? = some o) : k < w.heap.size := by
  rcases Nat.lt_or_ge k w.heap.size with h' | h'
  · exact h'
  · simp [Array.getElem?_eq_none h'] at h

theorem Keep.refl (S : Nat → Nat → Prop) (w : World) : Keep S w w := ⟨rfl, rfl, rfl, Nat.le_refl _, fun _ _ _ => rfl, fun _ c _ _ h => ⟨c, h, rfl, fun _ _ => rfl⟩⟩

theorem Keep.trans {S S' : Nat → Nat → Prop} {a b c : World} (h : Keep S a b) (k : Keep S' b c) (hs : ∀ n o, n < a.heap.size → S' n o → S n o) : Keep S a c := by
  refine ⟨k.os.trans h.os, k.tape.trans h.tape, k.output.trans h.output, Nat.le_trans h.size k.size, fun n hn hS => ?_, fun n x t fr hx => ?_⟩
  · rw [k.block n (Nat.lt_of_lt_of_le hn h.size) (fun o ho => hS o (hs n o hn ho)), h.block n hn hS]
  · obtain ⟨x1, h1, s1, e1⟩ := h.cells n x t fr hx
    obtain ⟨x2, h2, s2, e2⟩ := k.cells n x1 t fr h1
    exact ⟨x2, h2, s2.trans s1, fun i hi => (e2 i fun h' => hi (hs n i (lt_of_heap hx) h')).trans (e1 i hi)⟩

theorem Keep.mono {S S' : Nat → Nat → Prop} {a b : World} (h : Keep S a b) (hs : ∀ n o, n < a.heap.size → S n o → S' n o) : Keep S' a b := by
  refine ⟨h.os, h.tape, h.output, h.size, fun n hn hS => h.block n hn fun o ho => hS o (hs n o hn ho), fun n x t fr hx => ?_⟩
  obtain ⟨x1, h1, s1, e1⟩ := h.cells n x t fr hx
  exact ⟨x1, h1, s1, fun i hi => e1 i fun h' => hi (hs n i (lt_of_heap hx) h')⟩

theorem Keep.any {S : Nat → Nat → Prop} {w w' : World} (h : Keep NoS w w') : Keep S w w' := h.mono fun _ _ _ h => h.elim

theorem Keep.of_below {w w' : World} {B : Nat} (h : Below B w w') (hB : w.heap.size ≤ B) : Keep NoS w w' :=
  ⟨h.os, h.tape, h.output, h.size, fun k hk _ => h.block k (by omega), fun k c t fr hk => ⟨c, by rw [h.block k (by have := lt_of_heap hk; omega)]; exact hk, rfl, fun _ _ => rfl⟩⟩

theorem Keep.below {S : Nat → Nat → Prop} {w w' : World} (h : Keep S w w') {B : Nat} (hB : B ≤ w.heap.size) (hS : ∀ n o, S n o → B ≤ n) : Below B w w' :=
  ⟨h.os, h.tape, h.output, h.size, fun k hk => h.block k (by omega) fun o ho => by have := hS k o ho; omega⟩

theorem heap_alloc_old (w : World) (o : Obj) (k : Nat) (h : k < w.heap.size) : (w.alloc o).heap[k]? = w.heap[k]? := Below.heap_alloc w o k h
theorem heap_alloc_at (w : World) (o : Obj) (k : Nat) (h : k = w.heap.size) : (w.alloc o).heap[k]? = some o := by
  subst h; show (w.heap.push o)[w.heap.size]? = some o; simp

theorem heap_setCell_other (w : World) (a : Addr) (u : Value) (k : Nat) (h : k ≠ a.block) : (w.setCell a u).heap[k]? = w.heap[k]? := Below.heap_setCell w a u k h
theorem heap_setCell_same {w : World} {b : Nat} {c : Array Value} {t : TypeId} {fr : Nat × Nat} (o : Nat) (u : Value) (h : w.heap[b]? = some (.cells c t fr)) : (w.setCell ⟨b, o, none⟩ u).heap[b]? = some (.cells (c.setIfInBounds o u) t fr) := by
  have hlt := lt_of_heap h
  have h' : w.heap[b] = .cells c t fr := by simpa [Array.getElem?_eq_getElem hlt] using h
  show (w.heap.modify b _)[b]? = _
  rw [Array.getElem?_eq_getElem (by simpa using hlt), Array.getElem_modify_self, h']
  rfl

theorem Keep.drewN {S : Nat → Nat → Prop} {a w : World} (h : Keep S a w) (n : Nat) : Keep S a (w.drewN n) := h.trans (S' := S) ⟨rfl, rfl, rfl, Nat.le_refl _, fun _ _ _ => rfl, fun _ c _ _ h => ⟨c, h, rfl, fun _ _ => rfl⟩⟩ fun _ _ _ h => h
theorem Keep.drew {S : Nat → Nat → Prop} {a w : World} (h : Keep S a w) : Keep S a w.drew := h.trans (S' := S) ⟨rfl, rfl, rfl, Nat.le_refl _, fun _ _ _ => rfl, fun _ c _ _ h => ⟨c, h, rfl, fun _ _ => rfl⟩⟩ fun _ _ _ h => h
theorem Keep.alloc {S : Nat → Nat → Prop} {a w : World} (h : Keep S a w) (o : Obj) : Keep S a (w.alloc o) :=
  h.trans (S' := NoS) (Keep.of_below ((Below.refl w.heap.size w).alloc (Nat.le_refl _) o) (Nat.le_refl _)) fun _ _ _ h => h.elim
theorem keep_setCell (w : World) (b o : Nat) (u : Value) : Keep (fun k i => k = b ∧ i = o) w (w.setCell ⟨b, o, none⟩ u) := by
  refine ⟨rfl, rfl, rfl, by simp, fun k hk hS => ?_, fun k c t fr hk => ?_⟩
  · by_cases hkb : k = b
    · exact absurd ⟨hkb, rfl⟩ (hS o)
    · exact heap_setCell_other _ _ _ _ hkb
  · by_cases hkb : k = b
    · subst hkb
      exact ⟨_, heap_setCell_same o u hk, by simp, fun i hi => by rw [Array.getElem?_setIfInBounds, if_neg]; exact fun e => hi ⟨rfl, e.symm⟩⟩
    · exact ⟨c, by rw [heap_setCell_other _ _ _ _ hkb]; exact hk, rfl, fun _ _ => rfl⟩
theorem Keep.setCell {S : Nat → Nat → Prop} {a w : World} (h : Keep S a w) {b o : Nat} (u : Value) (hs : b < a.heap.size → S b o) : Keep S a (w.setCell ⟨b, o, none⟩ u) :=
  h.trans (keep_setCell w b o u) fun n i hn ⟨h1, h2⟩ => by subst h1 h2; exact hs hn

theorem keR {S : Nat → Nat → Prop} {w : World} : Keep S w w := Keep.refl S w
theorem keA {S : Nat → Nat → Prop} {a w : World} {o : Obj} (h : Keep S a w) : Keep S a (w.alloc o) := h.alloc o
theorem keS {S : Nat → Nat → Prop} {a w : World} {b o : Nat} {u : Value} (h : Keep S a w) (hs : b < a.heap.size → S b o) : Keep S a (w.setCell ⟨b, o, none⟩ u) := h.setCell u hs
theorem keN {S : Nat → Nat → Prop} {a w : World} {n : Nat} (h : Keep S a w) : Keep S a (w.drewN n) := h.drewN n
theorem keD {S : Nat → Nat → Prop} {a w : World} (h : Keep S a w) : Keep S a w.drew := h.drew
/-! ### whole numbers in memory -/
abbrev U32 : TypeId := 238

/-- A place where a whole number lies or may be laid: two cells of a block that is not one of digits. -/
def IsHdr (w : World) (b o : Nat) : Prop := ∃ (c : Array Value) (t : TypeId), w.heap[b]? = some (.cells c t (0, 0)) ∧ t ≠ U32 ∧ o + 1 < c.size ∧ (∃ neg, c[o]? = some (.bool neg)) ∧ ∃ a n m, c[o + 1]? = some (.slice a n m)

/-- A slice of digits. -/
def IsDig (w : World) (v : Value) (ds : List Nat) : Prop :=
  ∃ (g cap : Nat) (c : Array Value) (fr : Nat × Nat), v = .slice (some ⟨g, 0, none⟩) ds.length cap ∧ w.heap[g]? = some (.cells c U32 fr) ∧ ds.length ≤ cap ∧ cap ≤ maxLen ∧
    (∀ i, i < ds.length → c[i]? = some (.int .u32 (ds.getD i 0 : Nat))) ∧ ∀ d ∈ ds, d < 4294967296

/-- At block b, offset o there are this sign and these digits. -/
def IsRaw (w : World) (b o : Nat) (neg : Bool) (ds : List Nat) : Prop :=
  ∃ (c : Array Value) (t : TypeId) (v : Value), w.heap[b]? = some (.cells c t (0, 0)) ∧ t ≠ U32 ∧ c[o]? = some (.bool neg) ∧ c[o + 1]? = some v ∧ IsDig w v ds

/-- At block b, offset o there is the whole number z. -/
def IsInt (w : World) (b o : Nat) (z : Int) : Prop := ∃ neg ds, IsRaw w b o neg ds ∧ NoEnd ds ∧ (neg = true → ds ≠ []) ∧ z = sgn neg (dval ds)

theorem IsDig.keep {S : Nat → Nat → Prop} {w w' : World} {v : Value} {ds : List Nat} (h : IsDig w v ds) (k : Keep S w w') (hS : ∀ n o c fr, S n o → w.heap[n]? ≠ some (.cells c U32 fr)) : IsDig w' v ds := by
  obtain ⟨g, cap, c, fr, hv, hg, h1, h2, h3, h4⟩ := h
  obtain ⟨c', hg', hs, he⟩ := k.cells g c U32 fr hg
  exact ⟨g, cap, c', fr, hv, hg', h1, h2, fun i hi => by rw [he i fun hh => hS _ _ _ _ hh hg]; exact h3 i hi, h4⟩

/-- S touches no digits, and no cell of the number at (b, o). -/
def Off (w : World) (S : Nat → Nat → Prop) (b o : Nat) : Prop := (∀ n i c fr, S n i → w.heap[n]? ≠ some (.cells c U32 fr)) ∧ ¬ S b o ∧ ¬ S b (o + 1)

theorem IsRaw.keep {S : Nat → Nat → Prop} {w w' : World} {b o : Nat} {neg : Bool} {ds : List Nat} (h : IsRaw w b o neg ds) (k : Keep S w w') (hS : Off w S b o) : IsRaw w' b o neg ds := by
  obtain ⟨c, t, v, hb, ht, h0, h1, hd⟩ := h
  obtain ⟨c', hb', hs, he⟩ := k.cells b c t _ hb
  exact ⟨c', t, v, hb', ht, by rw [he o hS.2.1]; exact h0, by rw [he (o + 1) hS.2.2]; exact h1, hd.keep k fun n o c fr h => hS.1 n o c fr h⟩

theorem IsInt.keep {S : Nat → Nat → Prop} {w w' : World} {b o : Nat} {z : Int} (h : IsInt w b o z) (k : Keep S w w') (hS : Off w S b o) : IsInt w' b o z := by
  obtain ⟨neg, ds, hr, h1⟩ := h
  exact ⟨neg, ds, hr.keep k hS, h1⟩

theorem IsHdr.off {w : World} {b o : Nat} (h : IsHdr w b o) {b' o' : Nat} (hne : b' ≠ b ∨ o' + 1 < o ∨ o + 1 < o') : Off w (At b o) b' o' := by
  obtain ⟨c, t, hb, ht, _⟩ := h
  refine ⟨fun n i c' fr ⟨h1, h2⟩ h3 => ?_, fun ⟨h1, h2⟩ => ?_, fun ⟨h1, h2⟩ => ?_⟩
  · subst h1; rw [hb] at h3; simp at h3; exact ht h3.2.1
  · omega
  · omega

theorem IsRaw.hdr {w : World} {b o : Nat} {neg : Bool} {ds : List Nat} (h : IsRaw w b o neg ds) : IsHdr w b o := by
  obtain ⟨c, t, v, hb, ht, h0, h1, g, cap, _, _, hv, _⟩ := h
  refine ⟨c, t, hb, ht, ?_, ⟨neg, h0⟩, ⟨_, _, _, hv ▸ h1⟩⟩
  rcases Nat.lt_or_ge (o + 1) c.size with h' | h'
  · exact h'
  · simp [Array.getElem?_eq_none h'] at h1

theorem IsInt.hdr {w : World} {b o : Nat} {z : Int} (h : IsInt w b o z) : IsHdr w b o := by obtain ⟨_, _, hr, _⟩ := h; exact hr.hdr

theorem IsHdr.keep {S : Nat → Nat → Prop} {w w' : World} {b o : Nat} (h : IsHdr w b o) (k : Keep S w w') (hS : Off w S b o) : IsHdr w' b o := by
  obtain ⟨c, t, hb, ht, hs, ⟨neg, h0⟩, a, n, m, h1⟩ := h
  obtain ⟨c', hb', hs', he⟩ := k.cells b c t _ hb
  exact ⟨c', t, hb', ht, by omega, ⟨neg, by rw [he o hS.2.1]; exact h0⟩, a, n, m, by rw [he (o + 1) hS.2.2]; exact h1⟩

theorem IsInt.lt {w : World} {b o : Nat} {z : Int} (h : IsInt w b o z) : b < w.heap.size := by
  obtain ⟨_, _, ⟨c, t, v, hb, _⟩, _⟩ := h; exact lt_of_heap hb
theorem IsHdr.lt {w : World} {b o : Nat} (h : IsHdr w b o) : b < w.heap.size := by obtain ⟨c, t, hb, _⟩ := h; exact lt_of_heap hb

theorem cell_of_heap {w : World} {b o : Nat} {c : Array Value} {t : TypeId} {fr : Nat × Nat} {v : Value} (h : w.heap[b]? = some (.cells c t fr)) (ho : c[o]? = some v) : w.cell? ⟨b, o, none⟩ = some v := by
  simp [World.cell?, h, ho]
theorem free_of_heap {w : World} {b o : Nat} {c : Array Value} {t : TypeId} (h : w.heap[b]? = some (.cells c t (0, 0))) : w.frozen? ⟨b, o, none⟩ = false := by
  simp [World.frozen?, h]

end Go.Proofs.YtnndmdfjdodiiaaGreat

namespace Go.Proofs.YtnndmdfjdodiiaaGreat
open Go.ChangeShapes Go.WideShapes Go.RowKit
set_option linter.unusedVariables false
set_option linter.unusedSimpArgs false

theorem getD_of_lt {ds : List Nat} {i : Nat} (h : i < ds.length) : ds.getD i 0 = ds[i] := by simp [List.getD, h]

/-- What a walk needs of a number in memory. -/
theorem IsRaw.open {w : World} {b o : Nat} {neg : Bool} {ds : List Nat} (h : IsRaw w b o neg ds) :
    ∃ g cap, w.cell? ⟨b, o, none⟩ = some (.bool neg) ∧ w.cell? ⟨b, o + 1, none⟩ = some (.slice (some ⟨g, 0, none⟩) ds.length cap) ∧ ds.length ≤ cap ∧ cap ≤ maxLen ∧ b < w.heap.size ∧ g < w.heap.size ∧ g ≠ b ∧
      w.frozen? ⟨b, o, none⟩ = false ∧ w.frozen? ⟨b, o + 1, none⟩ = false ∧ (∀ i, i < ds.length → w.cell? ⟨g, i, none⟩ = some (.int .u32 (ds.getD i 0 : Nat)) ∧ ds.getD i 0 < 4294967296) := by
  obtain ⟨c, t, v, hb, ht, h0, h1, g, cap, cg, fr, hv, hg, hl, hm, hc, hd⟩ := h
  subst hv
  refine ⟨g, cap, cell_of_heap hb h0, cell_of_heap hb h1, hl, hm, lt_of_heap hb, lt_of_heap hg, ?_, free_of_heap hb, free_of_heap hb, fun i hi => ⟨cell_of_heap hg (hc i hi), ?_⟩⟩
  · intro e; subst e; rw [hb] at hg; simp at hg; exact ht hg.2.1
  · rw [getD_of_lt hi]; exact hd _ (List.getElem_mem hi)

end Go.Proofs.YtnndmdfjdodiiaaGreat

namespace Go.Proofs.YtnndmdfjdodiiaaGreat
open Go.ChangeShapes Go.WideShapes Go.RowKit
set_option linter.unusedVariables false
set_option linter.unusedSimpArgs false
theorem IsHdr.open {w : World} {b o : Nat} (h : IsHdr w b o) : ∃ neg a n m, w.cell? ⟨b, o, none⟩ = some (.bool neg) ∧ w.cell? ⟨b, o + 1, none⟩ = some (.slice a n m) ∧ w.frozen? ⟨b, o, none⟩ = false ∧ w.frozen? ⟨b, o + 1, none⟩ = false ∧ b < w.heap.size := by
  obtain ⟨c, t, hb, ht, hsz, ⟨neg, h0⟩, a, n, m, h1⟩ := h
  exact ⟨neg, a, n, m, cell_of_heap hb h0, cell_of_heap hb h1, free_of_heap hb, free_of_heap hb, lt_of_heap hb⟩

theorem dig_new (w : World) (ds : List Nat) (hl : ds.length ≤ maxLen) (hd : ∀ d ∈ ds, d < 4294967296) :
    IsDig (w.alloc (.cells (ds.map fun d => Value.int .u32 (d : Nat)).toArray U32)) (.slice (some ⟨w.heap.size, 0, none⟩) ds.length ds.length) ds :=
  ⟨w.heap.size, ds.length, _, (0, 0), rfl, heap_alloc_at _ _ _ rfl, Nat.le_refl _, hl, fun i hi => by simp [List.getD, hi], hd⟩

theorem dval_zero (ds : List Nat) (h : NoEnd ds) (h0 : dval ds = 0) : ds = [] := by
  by_cases he : ds = []
  · exact he
  · have := dval_ge ds h he
    have := Nat.pow_pos (n := ds.length - 1) (show 0 < 4294967296 by omega)
    omega

theorem sgn_zero {neg : Bool} {ds : List Nat} (h : NoEnd ds) (hn : neg = true → ds ≠ []) : sgn neg (dval ds) = 0 ↔ ds = [] := by
  constructor
  · intro h0
    have := natAbs_sgn neg (dval ds)
    rw [h0] at this
    exact dval_zero ds h this.symm
  · rintro rfl; cases neg <;> simp [sgn, dval]

/-- What the walk needs of a whole number; and its digits. -/
theorem IsInt.open {w : World} {b o : Nat} {z : Int} (h : IsInt w b o z) : ∃ neg ds, IsRaw w b o neg ds ∧ NoEnd ds ∧ (neg = true → ds ≠ []) ∧ z = sgn neg (dval ds) ∧ (neg = true ↔ z < 0) ∧ (ds = [] ↔ z = 0) ∧ dval ds = z.natAbs := by
  obtain ⟨neg, ds, hr, hn, hne, rfl⟩ := h
  refine ⟨neg, ds, hr, hn, hne, rfl, ?_, (sgn_zero hn hne).symm, (natAbs_sgn _ _).symm⟩
  constructor
  · intro e
    have : dval ds ≠ 0 := fun h0 => hne e (dval_zero ds hn h0)
    subst e; simp [sgn]; omega
  · intro h0
    cases neg
    · simp [sgn] at h0; omega
    · rfl

end Go.Proofs.YtnndmdfjdodiiaaGreat

namespace Go.Proofs.YtnndmdfjdodiiaaGreat
open Go.ChangeShapes Go.WideShapes Go.RowKit
set_option linter.unusedVariables false
set_option linter.unusedSimpArgs false
theorem IsRaw.lt {w : World} {b o : Nat} {neg : Bool} {ds : List Nat} (h : IsRaw w b o neg ds) : ∀ d ∈ ds, d < 4294967296 := by
  obtain ⟨c, t, v, hb, ht, h0, h1, g', cap', cg, fr, hv, hg, hl, hm, hc, hd⟩ := h; exact hd

end Go.Proofs.YtnndmdfjdodiiaaGreat

namespace Go.Proofs.YtnndmdfjdodiiaaGreat
open Go.ChangeShapes Go.WideShapes Go.RowKit
set_option linter.unusedVariables false
set_option linter.unusedSimpArgs false
theorem add_zero_off (g j : Nat) : (⟨g, 0, none⟩ : Addr).add j = ⟨g, j, none⟩ := by unfold Addr.add; split <;> simp_all

theorem grown_keep {w w' : World} {row : Option Nat} (h : w.grownBy w' row) (B : Nat) (hB : B ≤ w.heap.size) (hr : ∀ k, row = some k → B ≤ k) : Below B w w' :=
  (Below.refl B w).grown h hB hr

end Go.Proofs.YtnndmdfjdodiiaaGreat

namespace Go.Proofs.YtnndmdfjdodiiaaGreat
open Go.ChangeShapes Go.WideShapes Go.RowKit
set_option linter.unusedVariables false
set_option linter.unusedSimpArgs false

/-- Two numbers' places do not overlap. -/
def Dis (b o b' o' : Nat) : Prop := b' ≠ b ∨ o' + 1 < o ∨ o + 1 < o'
theorem Dis.symm {b o b' o' : Nat} (h : Dis b o b' o') : Dis b' o' b o := by unfold Dis at *; omega
end Go.Proofs.YtnndmdfjdodiiaaGreat

namespace Go.Proofs.YtnndmdfjdodiiaaGreat
open Go.ChangeShapes Go.WideShapes Go.RowKit
set_option linter.unusedVariables false
set_option linter.unusedSimpArgs false
end Go.Proofs.YtnndmdfjdodiiaaGreat

namespace Go.Proofs.YtnndmdfjdodiiaaGreat
open Go.ChangeShapes Go.WideShapes Go.RowKit
set_option linter.unusedVariables false
set_option linter.unusedSimpArgs false
end Go.Proofs.YtnndmdfjdodiiaaGreat

namespace Go.Proofs.YtnndmdfjdodiiaaGreat
open Go.ChangeShapes Go.WideShapes Go.RowKit
set_option linter.unusedVariables false
set_option linter.unusedSimpArgs false

theorem Keep.both {w0 w w' : World} (h : Keep NoS w0 w) (k : Keep NoS w w') : Keep NoS w0 w' := h.trans k fun _ _ _ h => h
/-- A fraction that fits the program's own. -/
def Fits (q : Rat) : Prop := q.num.natAbs ≤ 1073741824 ∧ q.den ≤ 1073741824
instance (q : Rat) : Decidable (Fits q) := by unfold Fits; infer_instance
theorem Keep.cell {w w' : World} (h : Keep NoS w w') {k i : Nat} (hk : k < w.heap.size) : w'.cell? ⟨k, i, none⟩ = w.cell? ⟨k, i, none⟩ := World.cell?_of_block (w := w) (h.block k hk fun _ h => h)
theorem Keep.frozen {w w' : World} (h : Keep NoS w w') {k i : Nat} (hk : k < w.heap.size) : w'.frozen? ⟨k, i, none⟩ = w.frozen? ⟨k, i, none⟩ := World.frozen?_of_block (w := w) (h.block k hk fun _ h => h)

end Go.Proofs.YtnndmdfjdodiiaaGreat

namespace Go.Proofs.YtnndmdfjdodiiaaGreat
open Go.ChangeShapes Go.WideShapes Go.RowKit
set_option linter.unusedVariables false
set_option linter.unusedSimpArgs false

theorem Below.keep {w w' : World} (h : Below w.heap.size w w') : Keep NoS w w' := Keep.of_below h (Nat.le_refl _)
theorem Keep.bel {w w' : World} (h : Keep NoS w w') : Below w.heap.size w w' := h.below (Nat.le_refl _) fun _ _ h => h.elim

@[go_sem] theorem fault_field0 (a b : Int) (w : World) : (Instr.field 41 (.agg #[.int .i64 a, .int .i64 b]) 0).run Tryz.prog w = .ok (.int .i64 a) w := by kernel_rfl
@[go_sem] theorem fault_field1 (a b : Int) (w : World) : (Instr.field 41 (.agg #[.int .i64 a, .int .i64 b]) 1).run Tryz.prog w = .ok (.int .i64 b) w := by kernel_rfl

/-- Block k is a row of these cells. -/
def Blk (w : World) (k : Nat) (A : Array Value) : Prop := ∃ t, w.heap[k]? = some (.cells A t (0, 0))
theorem blk_at {w : World} (A : Array Value) (t : TypeId) {k : Nat} (h : k = w.heap.size) : Blk (w.alloc (.cells A t)) k A := ⟨t, heap_alloc_at _ _ _ h⟩
theorem Blk.lt {w : World} {k : Nat} {A : Array Value} (h : Blk w k A) : k < w.heap.size := by obtain ⟨t, h⟩ := h; exact lt_of_heap h
theorem Blk.old {w : World} {k : Nat} {A : Array Value} (h : Blk w k A) (o : Obj) : Blk (w.alloc o) k A := by
  have hl := h.lt
  obtain ⟨t, h⟩ := h
  exact ⟨t, (heap_alloc_old _ _ _ hl).trans h⟩
theorem Blk.keep {w w' : World} {k : Nat} {A : Array Value} (h : Blk w k A) (hk : Keep NoS w w') : Blk w' k A := by
  have hl := h.lt
  obtain ⟨t, h⟩ := h
  exact ⟨t, (hk.block k hl fun _ h => h).trans h⟩
theorem Blk.cell {w : World} {k : Nat} {A : Array Value} (h : Blk w k A) (i : Nat) : w.cell? ⟨k, i, none⟩ = A[i]? := by obtain ⟨t, h⟩ := h; simp [World.cell?, h]
theorem Blk.free {w : World} {k : Nat} {A : Array Value} (h : Blk w k A) (i : Nat) : w.frozen? ⟨k, i, none⟩ = false := by obtain ⟨t, h⟩ := h; simp [World.frozen?, h]
theorem Blk.two {w : World} {k : Nat} {x y : Value} (h : Blk w k #[x, y]) :
    w.cell? ⟨k, 0, none⟩ = some x ∧ w.cell? ⟨k, 1, none⟩ = some y ∧ w.frozen? ⟨k, 0, none⟩ = false ∧ w.frozen? ⟨k, 1, none⟩ = false ∧ k < w.heap.size :=
  ⟨h.cell 0, h.cell 1, h.free 0, h.free 1, h.lt⟩

/-- The fraction n/d. -/
def fr (n d : Int) : Rat := Rat.divInt n d

section
variable {n1 d1 n2 d2 : Int} (h1 : FracOK n1 d1) (h2 : FracOK n2 d2)
end
end Go.Proofs.YtnndmdfjdodiiaaGreat

namespace Go.Proofs.YtnndmdfjdodiiaaGreat
open Go.ChangeShapes Go.WideShapes Go.ChangeAt Go.RowKit Go.Joins Go.Deep
set_option linter.unusedVariables false
set_option linter.unusedSimpArgs false

/-- A slice of integers, as it lies. -/
def IsInts (w : World) (v : Value) (l : List Int) : Prop :=
  ∃ oa cap, v = .slice oa l.length cap ∧ l.length ≤ maxLen ∧ (∀ x ∈ l, I64 x) ∧ (l ≠ [] → ∃ b o, oa = some ⟨b, o, none⟩ ∧ b < w.heap.size ∧ ∀ i x, l[i]? = some x → w.cell? ⟨b, o + i, none⟩ = some (.int .i64 x))

theorem cell_lt {w : World} {b o : Nat} {s : Option Nat} {v : Value} (h : w.cell? ⟨b, o, s⟩ = some v) : b < w.heap.size := by
  apply Classical.byContradiction
  intro h'
  rw [World.cell?, Array.getElem?_eq_none (Nat.le_of_not_lt h')] at h
  cases h

theorem IsInts.keep {w w' : World} {v : Value} {l : List Int} (h : IsInts w v l) (k : Keep NoS w w') : IsInts w' v l := by
  obtain ⟨oa, cap, h1, h2, h3, h4⟩ := h
  refine ⟨oa, cap, h1, h2, h3, fun hne => ?_⟩
  obtain ⟨b, o, e, hb, hc⟩ := h4 hne
  exact ⟨b, o, e, Nat.lt_of_lt_of_le hb k.size, fun i x hx => by rw [k.cell hb]; exact hc i x hx⟩

section
variable {H : Type} {enc : TypeId × Value → H} {W : World} {base : Nat} {d : DataW H} {p : List MemPlace} {v : Value}

set_option maxRecDepth 100000 in
theorem in_ints (hv : Value.okWide Tryz.prog W .any base 22 v) (h : DataW.Trod enc Tryz.prog W 0 (fun _ => true) true 22 v d p) : ∃ l, IsInts W v l := by
  obtain ⟨a0, len, cap, rfl⟩ := okWide_slice Tryz.underlying22 hv
  obtain ⟨fuel, hf⟩ := h
  rcases open_ints Tryz.underlying22 Tryz.underlying3 (by kernel_rfl) hf with ⟨hcs, _⟩ | ⟨a, len', cap', zs, hcs, _, hl, hm, hz, _, hc, hwf⟩
  · simp [Value.cells] at hcs
    obtain ⟨rfl, rfl, rfl⟩ := hcs
    exact ⟨[], none, 0, rfl, by simp, by simp, fun h => absurd rfl h⟩
  · simp [Value.cells] at hcs
    obtain ⟨rfl, rfl, rfl⟩ := hcs
    simp at hz
    refine ⟨zs.take len, some a, cap, by rw [List.length_take]; congr 1; omega, by rw [List.length_take]; omega, fun x hx => i64_of_wf (hwf x (List.mem_of_mem_take hx)), fun hne => ?_⟩
    have hp : 0 < zs.length := by
      rcases zs with _ | ⟨z, zs⟩
      · simp at hne
      · simp
    obtain ⟨b, off, rfl, hq⟩ := ints_at hc hp
    have hx : ∀ i x, (zs.take len)[i]? = some x → W.cell? ⟨b, off + i, none⟩ = some (.int .i64 x) := by
      intro i x hx
      obtain ⟨hi, hx⟩ := List.getElem?_eq_some_iff.1 hx
      rw [List.length_take] at hi
      rw [hq i (by omega), List.getD_eq_getElem?_getD, List.getElem?_eq_getElem (by omega)]
      rw [List.getElem_take] at hx
      simp [hx]
    exact ⟨b, off, rfl, cell_lt (hq 0 hp), hx⟩

end

theorem IsInts.at {w : World} {v : Value} {l : List Int} (h : IsInts w v l) {k : Nat} (hk : k < l.length) : ∃ b o cap, v = .slice (some ⟨b, o, none⟩) l.length cap ∧ b < w.heap.size ∧ w.cell? ⟨b, o + k, none⟩ = some (.int .i64 l[k]) := by
  obtain ⟨oa, cap, h1, h2, h3, h4⟩ := h
  obtain ⟨b, o, rfl, hb, hc⟩ := h4 (by rintro rfl; simp at hk)
  exact ⟨b, o, cap, h1, hb, hc k _ (List.getElem?_eq_getElem hk)⟩

theorem IsInts.form {w : World} {v : Value} {l : List Int} (h : IsInts w v l) {n : Nat} (hn : n = l.length) : ∃ oa cap, v = .slice oa n cap := by
  obtain ⟨oa, cap, rfl, _⟩ := h
  exact ⟨oa, cap, by rw [hn]⟩

theorem IsInts.same {w w' : World} {v : Value} {l : List Int} (h : IsInts w v l) (hc : ∀ a, w'.cell? a = w.cell? a) (hs : w.heap.size ≤ w'.heap.size) : IsInts w' v l := by
  obtain ⟨oa, cap, h1, h2, h3, h4⟩ := h
  refine ⟨oa, cap, h1, h2, h3, fun hne => ?_⟩
  obtain ⟨b, o, e, hb, hq⟩ := h4 hne
  exact ⟨b, o, e, by omega, fun i x hx => by rw [hc]; exact hq i x hx⟩

end Go.Proofs.YtnndmdfjdodiiaaGreat

namespace Go.Proofs.YtnndmdfjdodiiaaGreat
open Go.ChangeShapes Go.WideShapes Go.RowKit
set_option linter.unusedVariables false
set_option linter.unusedSimpArgs false

/-- Block g holds xs and, behind them, what else there is. -/
def IntBlk (w : World) (g : Nat) (xs : List Int) : Prop := ∃ A : Array Value, Blk w g A ∧ ∀ i, i < xs.length → A[i]? = some (.int .i64 (xs.getD i 0))

theorem IntBlk.lt {w : World} {g : Nat} {xs : List Int} (h : IntBlk w g xs) : g < w.heap.size := by obtain ⟨A, h, _⟩ := h; exact h.lt
theorem IntBlk.cell {w : World} {g : Nat} {xs : List Int} (h : IntBlk w g xs) {i : Nat} (hi : i < xs.length) : w.cell? ⟨g, i, none⟩ = some (.int .i64 (xs.getD i 0)) := by
  obtain ⟨A, h, hA⟩ := h
  rw [h.cell i]; exact hA i hi
theorem IntBlk.free {w : World} {g : Nat} {xs : List Int} (h : IntBlk w g xs) (i : Nat) : w.frozen? ⟨g, i, none⟩ = false := by
  obtain ⟨A, h, hA⟩ := h
  exact h.free i
theorem IntBlk.keep {w w' : World} {g : Nat} {xs : List Int} (h : IntBlk w g xs) (k : Keep NoS w w') : IntBlk w' g xs := by
  obtain ⟨A, h, hA⟩ := h
  exact ⟨A, h.keep k, hA⟩
theorem IntBlk.old {w : World} {g : Nat} {xs : List Int} (h : IntBlk w g xs) (o : Obj) : IntBlk (w.alloc o) g xs := by
  obtain ⟨A, h, hA⟩ := h
  exact ⟨A, h.old o, hA⟩
theorem Blk.set {w : World} {g : Nat} {A : Array Value} (h : Blk w g A) (i : Nat) (v : Value) : Blk (w.setCell ⟨g, i, none⟩ v) g (A.setIfInBounds i v) := by
  obtain ⟨t, h⟩ := h
  exact ⟨t, Go.Joins.block_setCell h v⟩
theorem Blk.setOther {w : World} {g g' : Nat} {A : Array Value} (h : Blk w g A) (i : Nat) (v : Value) (hne : g ≠ g') : Blk (w.setCell ⟨g', i, none⟩ v) g A := by
  obtain ⟨t, h⟩ := h
  exact ⟨t, by rw [heap_setCell_other _ _ _ _ hne]; exact h⟩
theorem IntBlk.set {w : World} {g : Nat} {xs : List Int} (h : IntBlk w g xs) {i : Nat} (v : Int) : IntBlk (w.setCell ⟨g, i, none⟩ (.int .i64 v)) g (xs.set i v) := by
  obtain ⟨A, h, hA⟩ := h
  refine ⟨_, h.set i _, fun j hj => ?_⟩
  rw [List.length_set] at hj
  have hjA : j < A.size := by
    have := hA j hj
    exact (Array.getElem?_eq_some_iff.1 this).1
  rw [Array.getElem?_setIfInBounds, List.getD_eq_getElem?_getD, List.getElem?_set]
  by_cases hij : i = j
  · subst hij
    simp [hjA, hj]
  · simp only [hij, if_false]
    rw [hA j hj, List.getD_eq_getElem?_getD]
theorem IntBlk.setOther {w : World} {g g' : Nat} {xs : List Int} (h : IntBlk w g xs) (i : Nat) (v : Value) (hne : g ≠ g') : IntBlk (w.setCell ⟨g', i, none⟩ v) g xs := by
  obtain ⟨A, h, hA⟩ := h
  exact ⟨A, h.setOther i v hne, hA⟩
theorem IntBlk.ints {w : World} {g : Nat} {xs : List Int} (h : IntBlk w g xs) (cap : Nat) (hl : xs.length ≤ maxLen) (hx : ∀ x ∈ xs, I64 x) : IsInts w (.slice (some ⟨g, 0, none⟩) xs.length cap) xs := by
  refine ⟨_, cap, rfl, hl, hx, fun _ => ⟨g, 0, rfl, h.lt, fun i x hi => ?_⟩⟩
  obtain ⟨hq, rfl⟩ := List.getElem?_eq_some_iff.1 hi
  have := h.cell hq
  rw [List.getD_eq_getElem?_getD, List.getElem?_eq_getElem hq] at this
  simpa using this

end Go.Proofs.YtnndmdfjdodiiaaGreat

namespace Go.Proofs.YtnndmdfjdodiiaaGreat
open Go.ChangeShapes Go.WideShapes Go.RowKit
set_option linter.unusedVariables false
set_option linter.unusedSimpArgs false

/-- An append whose run is known. -/
theorem wpList_app_run {P : Program} {w w' : World} {v' : Value} {ops : Array Oper} {rest : List Oper} {o : Oper} {a : Act} {Q : Exit → Act → World → Prop} (s x : Operand) (t : TypeId) (v u : Value) (hgd : o.guard = none)
    (ho : o.op = .call { callee := .builtin .append, args := #[s, x], argTypes := #[t, t] }) (hs : a.eval s = v) (hx : a.eval x = u) (hrun : (Builtin.append_ #[t, t] o.type #[v, u]).run P w = .ok v' w')
    (h : wpList P ops Q rest (a.put o.dst v') w') : wpList P ops Q (o :: rest) a w := by
  refine wpList_plain hgd fun K hK => ?_
  unfold Oper.wp execOp
  simp only [ho, resolve, invoke, builtin, Sem.run_bind, Sem.run_pure, Result.andThen_ok, List.map_toArray, List.map_cons, List.map_nil, hs, hx, hrun]
  exact hK _ _ h

/-- The same inside a region whose order is drawn. -/
theorem wp_app_run {P : Program} {w w' : World} {v' : Value} {o : Oper} {a : Act} {Q : Exit → Act → World → Prop} {K : Act → World → Prop} (s x : Operand) (t : TypeId) (v u : Value)
    (ho : o.op = .call { callee := .builtin .append, args := #[s, x], argTypes := #[t, t] }) (hs : a.eval s = v) (hx : a.eval x = u) (hrun : (Builtin.append_ #[t, t] o.type #[v, u]).run P w = .ok v' w')
    (h : K (a.put o.dst v') w') : o.wp P a w K Q := by
  unfold Oper.wp execOp
  simp only [ho, resolve, invoke, builtin, Sem.run_bind, Sem.run_pure, Result.andThen_ok, List.map_toArray, List.map_cons, List.map_nil, hs, hx, hrun]
  exact h

theorem app_none {P : Program} {w : World} {sl el ty : TypeId} {i : TypeInfo} {z : Value} (hu : P.underlying sl = some (.slice el)) (hi : P.info? el = some i) (hz : i.zero = some z) (v : Value) (base n k : Nat) (xs : List Value) (hown : w.ownsRow base el k v n xs) (c : Nat) :
    (Builtin.append_ #[sl, sl] ty #[v, .slice none 0 c]).run P w = .ok v w := by
  obtain ⟨_, h | ⟨g, cap, cur, rfl, _, _, hl, _⟩⟩ := hown
  · obtain ⟨rfl, rfl⟩ := h
    simp [Builtin.append_, run_underlying hu, sizeOf, typeInfo, hi, hz, Builtin.lenOf, Builtin.firstCells, loadCells, loadCellsFrom]
  · simp [Builtin.append_, run_underlying hu, sizeOf, typeInfo, hi, hz, Builtin.lenOf, Builtin.firstCells, loadCells, loadCellsFrom, hl, storeCells]

theorem app_run {P : Program} {w : World} {sl el ty : TypeId} {i : TypeInfo} {z : Value} {k bytes : Nat} (hu : P.underlying sl = some (.slice el)) (hi : P.info? el = some i) (hz : i.zero = some z) (hs : i.size = k) (hb : i.bytes = bytes) (hzs : z.cells.size = k) (hk : 0 < k)
    (base : Nat) (v : Value) (n : Nat) (xs : List Value) (hown : w.ownsRow base el k v n xs) (oa : Option Addr) (m c : Nat) (news : List Value) (hl : news.length = m * k) (hsrc : 0 < m → ∃ a, oa = some a ∧ ∀ j u, news[j]? = some u → w.cell? (a.add j) = some u)
    (h1 : ∀ u ∈ news, u.oneCell' = true) (hmx : n + m ≤ maxLen) (hby : (n + m) * bytes ≤ 140737488355328) (hbase : base ≤ w.heap.size) :
    ∃ v' w', (Builtin.append_ #[sl, sl] ty #[v, .slice oa m c]).run P w = .ok v' w' ∧ w'.ownsRow base el k v' (n + m) (xs ++ news) ∧ w.grownBy w' v.ownBlock := by
  rcases Nat.eq_zero_or_pos m with rfl | hm
  · rw [Nat.zero_mul] at hl
    have : news = [] := List.eq_nil_of_length_eq_zero hl
    subst this
    rcases oa with _ | a
    · refine ⟨v, w, app_none hu hi hz v base n k xs hown c, by simpa using hown, ⟨rfl, rfl, rfl, Nat.le_refl _, fun _ _ _ => rfl⟩⟩
    · obtain ⟨v', w', hr, ho, hg, _, _⟩ := run_append_own_at (P := P) w base sl ty el i z k bytes hu hi hz hs hb hzs hk v n xs hown a 0 c [] (by simp) (by simp) (by simp) hmx hby hbase
      exact ⟨v', w', hr, ho, hg⟩
  · obtain ⟨a, rfl, hc⟩ := hsrc hm
    obtain ⟨v', w', hr, ho, hg, _, _⟩ := run_append_own_at (P := P) w base sl ty el i z k bytes hu hi hz hs hb hzs hk v n xs hown a m c news hl hc h1 hmx hby hbase
    exact ⟨v', w', hr, ho, hg⟩

theorem Keep.grown {w0 w w1 : World} {row : Option Nat} (h : Keep NoS w0 w) (hg : w.grownBy w1 row) (hr : ∀ k, row = some k → w0.heap.size ≤ k) : Keep NoS w0 w1 :=
  Keep.of_below ((Keep.bel h).grown hg h.size hr) (Nat.le_refl _)

/-! ### integers -/
abbrev TI : TypeId := 3
theorem infoI : (Tryz.prog.info? 3).map (fun i => (i.zero, i.size, i.bytes)) = some (some (.int .i64 0), 1, 8) := by kernel_rfl

def iv (xs : List Int) : List Value := xs.map (Value.int .i64)
theorem iv_get (xs : List Int) (i : Nat) : (iv xs)[i]? = (xs[i]?).map (Value.int .i64) := by simp [iv]
theorem iv_app (xs ys : List Int) : iv (xs ++ ys) = iv xs ++ iv ys := by simp [iv]
/-- A []int of the call's own: it lies at or above base. -/
def OwnI (w : World) (base : Nat) (v : Value) (xs : List Int) : Prop := w.ownsRow base TI 1 v xs.length (iv xs)

theorem OwnI.nil (w : World) (base : Nat) : OwnI w base (.slice none 0 0) [] := World.ownsRow_nil _ _ _ _
theorem OwnI.block {w : World} {base : Nat} {v : Value} {xs : List Int} (h : OwnI w base v xs) : ∀ k, v.ownBlock = some k → base ≤ k := fun k hk => (World.ownsRow.lt h k hk).1
theorem OwnI.keep {w w' : World} {base : Nat} {v : Value} {xs : List Int} (h : OwnI w base v xs) (k : Keep NoS w w') : OwnI w' base v xs := by
  obtain ⟨hl, h | ⟨g, cap, cur, hv, hb, hg, hl', hm, hs, ht⟩⟩ := h
  · exact ⟨hl, .inl h⟩
  · exact ⟨hl, .inr ⟨g, cap, cur, hv, hb, by rw [k.block g (lt_of_heap hg) fun _ h => h]; exact hg, hl', hm, hs, ht⟩⟩
theorem OwnI.len {w : World} {base : Nat} {v : Value} {xs : List Int} (h : OwnI w base v xs) : ∃ oa cap, v = .slice oa xs.length cap := by
  obtain ⟨hl, h | ⟨g, cap, cur, hv, hb, hg, hl', hm, hs, ht⟩⟩ := h
  · obtain ⟨rfl, h0⟩ := h
    exact ⟨none, 0, by rw [h0]⟩
  · exact ⟨_, cap, hv⟩
theorem OwnI.max {w : World} {base : Nat} {v : Value} {xs : List Int} (h : OwnI w base v xs) : xs.length ≤ maxLen := by
  obtain ⟨hl, h | ⟨g, cap, cur, hv, hb, hg, hl', hm, hs, ht⟩⟩ := h
  · obtain ⟨rfl, h0⟩ := h; rw [h0]; exact Nat.zero_le _
  · omega
theorem OwnI.ints {w : World} {base : Nat} {v : Value} {xs : List Int} (h : OwnI w base v xs) (hx : ∀ x ∈ xs, I64 x) : IsInts w v xs := by
  have hm := h.max
  obtain ⟨hl, h' | ⟨g, cap, cur, hv, hb, hg, hl', _, hs, ht⟩⟩ := h
  · obtain ⟨rfl, h0⟩ := h'
    have : xs = [] := List.eq_nil_of_length_eq_zero h0
    subst this
    exact ⟨none, 0, rfl, by simp, by simp, fun h => absurd rfl h⟩
  · refine ⟨_, cap, hv, hm, hx, fun _ => ⟨g, 0, rfl, lt_of_heap hg, fun i x hi => ?_⟩⟩
    have h1 : (cur.toList.take (xs.length * 1))[i]? = (iv xs)[i]? := by rw [ht]
    have hil : i < xs.length := (List.getElem?_eq_some_iff.1 hi).1
    rw [List.getElem?_take, if_pos (by omega), iv_get, hi] at h1
    rw [Nat.zero_add]
    exact cell_of_heap hg (by simpa using h1)

theorem IsInts.len {w : World} {v : Value} {l : List Int} (h : IsInts w v l) : ∃ oa cap, v = .slice oa l.length cap ∧ l.length ≤ maxLen := by
  obtain ⟨oa, cap, hv, hm, _⟩ := h
  exact ⟨oa, cap, hv, hm⟩
theorem IsInts.all {w : World} {v : Value} {l : List Int} (h : IsInts w v l) : ∀ x ∈ l, I64 x := by obtain ⟨_, _, _, _, h, _⟩ := h; exact h
theorem World.ownsRow_mono {w : World} {base base' : Nat} {e : TypeId} {size : Nat} {v : Value} {n : Nat} {xs : List Value} (h : w.ownsRow base e size v n xs) (hb : base' ≤ base) : w.ownsRow base' e size v n xs := by
  obtain ⟨hl, h | ⟨g, cap, cur, hv, hg, h⟩⟩ := h
  · exact ⟨hl, .inl h⟩
  · exact ⟨hl, .inr ⟨g, cap, cur, hv, by omega, h⟩⟩

/-- What an append needs of integers that lie somewhere. -/
theorem IsInts.src {w : World} {v : Value} {l : List Int} (h : IsInts w v l) : ∃ oa cap, v = .slice oa l.length cap ∧ (0 < l.length → ∃ a, oa = some a ∧ ∀ j u, (iv l)[j]? = some u → w.cell? (a.add j) = some u) := by
  obtain ⟨oa, cap, rfl, hm, hx, hc⟩ := h
  refine ⟨oa, cap, rfl, fun h0 => ?_⟩
  obtain ⟨b, o, rfl, hb, hcell⟩ := hc (by rintro rfl; simp at h0)
  refine ⟨_, rfl, fun j u hj => ?_⟩
  rw [iv_get] at hj
  rcases hl : l[j]? with _ | x
  · rw [hl] at hj; cases hj
  · rw [hl] at hj
    simp at hj
    subst hj
    rw [show (⟨b, o, none⟩ : Addr).add j = ⟨b, o + j, none⟩ from by unfold Addr.add; split <;> simp_all]
    exact hcell j x hl

end Go.Proofs.YtnndmdfjdodiiaaGreat

namespace Go.Proofs.YtnndmdfjdodiiaaGreat
open Go.ChangeShapes Go.WideShapes Go.RowKit
set_option linter.unusedVariables false
set_option linter.unusedSimpArgs false

section
variable {α : Type} {T : TypeId} {K : Nat} {c : α → List Value}
theorem flat_len (hK : ∀ x, (c x).length = K) (l : List α) : (l.flatMap c).length = l.length * K := by
  induction l with
  | nil => simp
  | cons g t ih =>
    rw [List.flatMap_cons, List.length_append, ih, hK, List.length_cons, Nat.succ_mul, Nat.add_comm]
theorem flat_get (hK : ∀ x, (c x).length = K) : ∀ (l : List α) (i : Nat) (x : α), l[i]? = some x → ∀ j, j < K → (l.flatMap c)[i * K + j]? = (c x)[j]?
  | [], i, x, h, j, hj => by simp at h
  | y :: t, 0, x, h, j, hj => by
    simp at h
    subst h
    rw [List.flatMap_cons, Nat.zero_mul, Nat.zero_add, List.getElem?_append_left (by rw [hK]; exact hj)]
  | y :: t, i + 1, x, h, j, hj => by
    have ih := flat_get hK t i x (by simpa using h) j hj
    rw [List.flatMap_cons, List.getElem?_append_right (by rw [hK, Nat.succ_mul]; omega), hK, ← ih]
    congr 1
    rw [Nat.succ_mul]
    omega
/-- A slice of the call's own. -/
def OwnG (T : TypeId) (K : Nat) (c : α → List Value) (w : World) (base : Nat) (v : Value) (l : List α) : Prop := w.ownsRow base T K v l.length (l.flatMap c)
theorem OwnG.nil (w : World) (base : Nat) : OwnG T K c w base (.slice none 0 0) [] := World.ownsRow_nil _ _ _ _
theorem OwnG.block {w : World} {base : Nat} {v : Value} {l : List α} (h : OwnG T K c w base v l) : ∀ k, v.ownBlock = some k → base ≤ k := fun k hk => (World.ownsRow.lt h k hk).1
theorem OwnG.keep {w w' : World} {base : Nat} {v : Value} {l : List α} (h : OwnG T K c w base v l) (k : Keep NoS w w') : OwnG T K c w' base v l := by
  obtain ⟨hl, h | ⟨g, cap, cur, hv, hb, hg, hl', hm, hs, ht⟩⟩ := h
  · exact ⟨hl, .inl h⟩
  · exact ⟨hl, .inr ⟨g, cap, cur, hv, hb, by rw [k.block g (lt_of_heap hg) fun _ h => h]; exact hg, hl', hm, hs, ht⟩⟩
theorem OwnG.len {w : World} {base : Nat} {v : Value} {l : List α} (h : OwnG T K c w base v l) : ∃ oa cap, v = .slice oa l.length cap ∧ l.length ≤ cap ∧ cap ≤ maxLen := by
  obtain ⟨hl, h | ⟨g, cap, cur, hv, hb, hg, hl', hm, hs, ht⟩⟩ := h
  · obtain ⟨rfl, h0⟩ := h
    exact ⟨none, 0, by rw [h0], by omega, by simp⟩
  · exact ⟨_, cap, hv, hl', hm⟩
theorem OwnG.cells (hK : ∀ x, (c x).length = K) {w : World} {base : Nat} {v : Value} {l : List α} (h : OwnG T K c w base v l) (h0 : l ≠ []) : ∃ g cap, v = .slice (some ⟨g, 0, none⟩) l.length cap ∧ base ≤ g ∧ g < w.heap.size ∧ ∀ i x, l[i]? = some x → ∀ j u, (c x)[j]? = some u → w.cell? ⟨g, 0 + i * K + j, none⟩ = some u := by
  obtain ⟨hl, h' | ⟨g, cap, cur, hv, hb, hg, hl', hm, hs, ht⟩⟩ := h
  · obtain ⟨rfl, h1⟩ := h'
    exact absurd (List.eq_nil_of_length_eq_zero h1) h0
  · refine ⟨g, cap, hv, hb, lt_of_heap hg, fun i x hx j u hu => ?_⟩
    have hj : j < K := by rw [← hK x]; exact (List.getElem?_eq_some_iff.1 hu).1
    have hc := flat_get hK l i x hx j hj
    have hil : i < l.length := (List.getElem?_eq_some_iff.1 hx).1
    rw [← ht, List.getElem?_take] at hc
    have hlt : i * K + j < l.length * K := by
      have : (i + 1) * K ≤ l.length * K := Nat.mul_le_mul_right _ hil
      rw [Nat.succ_mul] at this
      omega
    rw [if_pos hlt, hu] at hc
    rw [Nat.zero_add]
    exact cell_of_heap hg (by simpa using hc)
theorem OwnG.lt {w : World} {base : Nat} {v : Value} {l : List α} (h : OwnG T K c w base v l) : ∀ k, v.ownBlock = some k → k < w.heap.size := fun k hk => (World.ownsRow.lt h k hk).2
theorem OwnG.app (hK : ∀ x, (c x).length = K) {i : TypeInfo} {z : Value} {bytes : Nat} {sl : TypeId} (hu : Tryz.prog.underlying sl = some (.slice T)) (hi : Tryz.prog.info? T = some i) (hz : i.zero = some z) (hs : i.size = K) (hb : i.bytes = bytes) (hzs : z.cells.size = K) (h0 : 0 < K)
    {w : World} {base : Nat} {v : Value} {l : List α} (hown : OwnG T K c w base v l) {b : Nat} {x : α} (hbk : Blk w b (c x).toArray) (h1 : ∀ u ∈ c x, u.oneCell' = true) (hmx : l.length + 1 ≤ maxLen) (hby : (l.length + 1) * bytes ≤ 140737488355328) (hbase : base ≤ w.heap.size) :
    ∃ v' w', (Builtin.append_ #[sl, sl] sl #[v, .slice (some ⟨b, 0, none⟩) 1 1]).run Tryz.prog w = .ok v' w' ∧ OwnG T K c w' base v' (l ++ [x]) ∧ w.grownBy w' v.ownBlock ∧ (v'.ownBlock = v.ownBlock ∨ v'.ownBlock = some w.heap.size) := by
  obtain ⟨v', w', hr, ho, hg, _, hv⟩ := run_append_own_at (P := Tryz.prog) w base sl sl T i z K bytes hu hi hz hs hb hzs h0 v l.length (l.flatMap c) hown ⟨b, 0, none⟩ 1 1 (c x) (by rw [hK, Nat.one_mul])
    (fun j u hj => by rw [add_plain, Nat.zero_add, hbk.cell j]; simpa using hj) h1 hmx hby hbase
  exact ⟨v', w', hr, by unfold OwnG; rw [List.flatMap_append, List.length_append]; simpa using ho, hg, hv⟩
end

end Go.Proofs.YtnndmdfjdodiiaaGreat
