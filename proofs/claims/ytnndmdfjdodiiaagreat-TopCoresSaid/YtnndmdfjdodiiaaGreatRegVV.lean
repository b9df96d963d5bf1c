/- A region whose order is drawn, by what each operation leaves: whatever the order, each is walked once. A region whose order is drawn, by what each operation leaves, with a relation among what they leave. -/
import Derived.Test.YtnndmdfjdodiiaaGreatTaAA
namespace Go.Proofs.YtnndmdfjdodiiaaGreat
set_option linter.unusedVariables false
set_option linter.unusedSimpArgs false

def putAll (ops : Array Oper) (σ : Nat → Value) : List Nat → Act → Act
  | [], a => a
  | e :: es, a => putAll ops σ es (match ops[e]? with | some o => a.put o.dst (σ e) | none => a)
def upd (σ : Nat → Value) (e : Nat) (v : Value) : Nat → Value := fun i => if i = e then v else σ i
def dstOf (ops : Array Oper) (e : Nat) : Option Tmp := (ops[e]?).bind (·.dst)
/-- No two operations write the same slot. -/
def apartD (ops : Array Oper) : Bool := (List.range ops.size).all fun i => (List.range ops.size).all fun j => i == j || (dstOf ops i).isNone || dstOf ops i != dstOf ops j
/-- Edges lead back. -/
def backE (md : Region.Mode) (ops : Array Oper) : Bool := (List.range ops.size).all fun i => ((ops[i]?).map fun o => o.after.all fun e => !Region.binds md e || decide (e.on < i)).getD true

section
variable {P : Program} {ops : Array Oper} {Q : Exit → Act → World → Prop} {md : Region.Mode}

theorem putAll_put {σ : Nat → Value} {d : Option Tmp} {v : Value} : ∀ (es : List Nat) (a : Act), (∀ e ∈ es, ∀ x, d = some x → dstOf ops e ≠ some x) → putAll ops σ es (a.put d v) = (putAll ops σ es a).put d v
  | [], a, _ => rfl
  | e :: es, a, h => by
    unfold putAll
    rcases ho : ops[e]? with _ | o
    · exact putAll_put es a fun i hi => h i (List.mem_cons_of_mem _ hi)
    · have h1 : ∀ x, d = some x → o.dst ≠ some x := fun x hx => by
        have := h e (List.mem_cons_self) x hx
        unfold dstOf at this
        rw [ho] at this
        exact this
      simp only
      rw [Act.put_comm a v (σ e) h1]
      exact putAll_put es _ fun i hi => h i (List.mem_cons_of_mem _ hi)
theorem putAll_congr {σ τ : Nat → Value} : ∀ (es : List Nat) (a : Act), (∀ e ∈ es, σ e = τ e) → putAll ops σ es a = putAll ops τ es a
  | [], a, _ => rfl
  | e :: es, a, h => by
    unfold putAll
    rw [h e List.mem_cons_self]
    exact putAll_congr es _ fun i hi => h i (List.mem_cons_of_mem _ hi)
theorem put_put (a : Act) (d : Option Tmp) (u v : Value) : (a.put d u).put d v = a.put d v := by
  unfold Act.put
  cases d with
  | none => rfl
  | some i => simp
theorem putAll_upd {σ : Nat → Value} {e : Nat} {v : Value} {o : Oper} (ho : ops[e]? = some o) : ∀ (es : List Nat) (a : Act), es.Nodup → e ∈ es → (∀ i ∈ es, i ≠ e → ∀ x, o.dst = some x → dstOf ops i ≠ some x) → putAll ops (upd σ e v) es a = (putAll ops σ es a).put o.dst v
  | [], a, _, h, _ => by cases h
  | i :: es, a, hn, h, hd => by
    unfold putAll
    rw [List.nodup_cons] at hn
    by_cases hie : i = e
    · subst hie
      rw [ho]
      simp only
      have e1 : upd σ i v i = v := by simp [upd]
      rw [e1, putAll_congr (τ := σ) es _ fun j hj => by
        have : j ≠ i := fun h0 => hn.1 (h0 ▸ hj)
        simp [upd, this]]
      rw [← putAll_put es _ fun j hj => hd j (List.mem_cons_of_mem _ hj) (fun h0 => hn.1 (h0 ▸ hj)), put_put]
    · have hes : e ∈ es := by
        rcases List.mem_cons.1 h with h | h
        · exact absurd h.symm hie
        · exact h
      have e1 : upd σ e v i = σ i := by simp [upd, hie]
      rw [e1]
      exact putAll_upd ho es _ hn.2 hes fun j hj => hd j (List.mem_cons_of_mem _ hj)
theorem put_self (a : Act) (d : Option Tmp) : a.put d (match d with | some i => a.tmps.getD i undef | none => undef) = a := by
  unfold Act.put
  cases d with
  | none => rfl
  | some i =>
    rcases Nat.lt_or_ge i a.tmps.size with h | h
    · have : a.tmps.setIfInBounds i a.tmps[i] = a.tmps := by
        apply Array.ext_getElem?
        intro j
        rw [Array.getElem?_setIfInBounds]
        split
        · rename_i e; subst e; simp [h]
        · rfl
      simp [Array.getD, h, this]
    · simp [Array.setIfInBounds, Nat.not_lt.2 h]
/-- What stands in the slots ahead of the region. -/
def start (ops : Array Oper) (a : Act) (e : Nat) : Value := match dstOf ops e with | some i => a.tmps.getD i undef | none => undef
theorem putAll_start : ∀ (es : List Nat) (a : Act), putAll ops (start ops a) es a = a
  | [], a => rfl
  | e :: es, a => by
    unfold putAll
    rcases ho : ops[e]? with _ | o
    · exact putAll_start es a
    · simp only
      have : start ops a e = (match o.dst with | some i => a.tmps.getD i undef | none => undef) := by unfold start dstOf; rw [ho]; rfl
      rw [this, put_self]
      exact putAll_start es a

theorem apartD_spec (h : apartD ops = true) {i j : Nat} (hi : i < ops.size) (hj : j < ops.size) (hij : i ≠ j) {x : Tmp} (hx : dstOf ops j = some x) : dstOf ops i ≠ some x := by
  intro h0
  have h1 := List.all_eq_true.1 (List.all_eq_true.1 h i (List.mem_range.2 hi)) j (List.mem_range.2 hj)
  simp [hij, h0, hx] at h1
/-- All have come up, if none is ready. -/
theorem all_listed (hb : backE md ops = true) {listed : Array Bool} (hr : Region.ready md ops listed = []) : ∀ e, e < ops.size → listed.getD e true = true := by
  intro e
  induction e using Nat.strongRecOn with
  | ind e ih =>
    intro he
    rcases hl : listed.getD e true with _ | _
    · exfalso
      have ho : ops[e]? = some ops[e] := by simp [he]
      have : e ∈ Region.ready md ops listed := by
        refine mem_ready.2 ⟨hl, _, ho, fun ed hed hbd => ?_⟩
        have h1 := List.all_eq_true.1 hb e (List.mem_range.2 he)
        rw [ho] at h1
        simp only [Option.map_some, Option.getD_some, Array.all_eq_true', Bool.or_eq_true, decide_eq_true_eq] at h1
        have h1 : ed.on < e := by
          rcases h1 ed hed with h | h
          · rw [hbd] at h; cases h
          · exact h
        have h2 := ih ed.on h1 (Nat.lt_trans h1 he)
        rcases Nat.lt_or_ge ed.on listed.size with h' | h'
        · simpa [Array.getD, h'] using h2
        · have : listed.size ≤ e := by omega
          simp [Array.getD, Nat.not_lt.2 this] at hl
      rw [hr] at this
      cases this
    · rfl

theorem waits_listed {listed : Array Bool} (hd : DC md ops listed) : ∀ (n e d : Nat) (o : Oper), ops[e]? = some o → (∀ ed ∈ o.after, Region.binds md ed = true → listed.getD ed.on false = true) → waitsB md ops n e d = true → listed.getD d false = true
  | 0, _, _, _, _, _, h => by cases h
  | n + 1, e, d, o, ho, hall, h => by
    obtain ⟨oj, hoj, ed, hed, hb, h1⟩ := waitsB_spec h
    rw [ho] at hoj
    cases hoj
    have hl := hall ed hed hb
    rcases h1 with h1 | h1
    · rw [← h1]; exact hl
    · rcases hk : ops[ed.on]? with _ | ok
      · cases n with
        | zero => cases h1
        | succ n =>
          obtain ⟨oj, hoj, _⟩ := waitsB_spec h1
          rw [hk] at hoj
          cases hoj
      · exact waits_listed hd n ed.on d ok hk (fun e2 he2 hb2 => hd ed.on ok e2 hk hl he2 hb2) h1

def mark (S : Nat → Bool) (e : Nat) : Nat → Bool := fun i => if i = e then true else S i
/-- What is known of the operations that have come up (S), ahead of operation e. -/
structure Known (md : Region.Mode) (ops : Array Oper) (a0 : Act) (Pst : (Nat → Bool) → Nat → Value → World → Prop) (S : Nat → Bool) (σ : Nat → Value) (w : World) (e : Nat) : Prop where
  self : S e = false
  init : ∀ d, S d = false → σ d = start ops a0 d
  up : ∀ d, waitsB md ops ops.size e d = true → S d = true
  down : ∀ d, waitsB md ops ops.size d e = true → S d = false
  post : ∀ d, waitsB md ops ops.size e d = true → Pst S d (σ d) w

theorem wpAnyL_inv (hb : backE md ops = true) (ha : apartD ops = true) {C : World → Prop} {Pst : (Nat → Bool) → Nat → Value → World → Prop} {a0 : Act}
    (hop : ∀ e o, ops[e]? = some o → ∀ S σ w, C w → Known md ops a0 Pst S σ w e → wpOp P ops Q e (fun a' w' => C w' ∧ (∀ d, d ≠ e → S d = true → Pst S d (σ d) w → Pst (mark S e) d (σ d) w') ∧ ∃ v, a' = (putAll ops σ (List.range ops.size) a0).put o.dst v ∧ Pst (mark S e) e v w') (putAll ops σ (List.range ops.size) a0) w)
    (hend : ∀ S σ w, C w → (∀ e, e < ops.size → S e = true) → (∀ e, e < ops.size → Pst S e (σ e) w) → Q .normal (putAll ops σ (List.range ops.size) a0) w) :
    ∀ (n : Nat) (U : List Nat) (listed : Array Bool) (σ : Nat → Value) (w : World), U.length = n → listed.size = ops.size → U.Nodup → (∀ e, listed.getD e true = false → e ∈ U) → DC md ops listed → C w → (∀ e, listed.getD e false = true → Pst (fun i => listed.getD i false) e (σ e) w) → (∀ d, listed.getD d false = false → σ d = start ops a0 d) →
      wpAny P md ops Q n listed (putAll ops σ (List.range ops.size) a0) w := by
  have fin : ∀ (listed : Array Bool) (σ : Nat → Value) (w : World), listed.size = ops.size → C w → (∀ e, listed.getD e false = true → Pst (fun i => listed.getD i false) e (σ e) w) → Region.ready md ops listed = [] → Q .normal (putAll ops σ (List.range ops.size) a0) w := by
    intro listed σ w hs hc hp hr
    have hall : ∀ e, e < ops.size → listed.getD e false = true := fun e he => by
      have := all_listed hb hr e he
      simpa [Array.getD, hs, he] using this
    exact hend (fun i => listed.getD i false) σ w hc hall fun e he => hp e (hall e he)
  intro n
  induction n with
  | zero =>
    intro U listed σ w hn hs hnd hu hd hc hp _
    have hU : U = [] := List.eq_nil_of_length_eq_zero hn
    subst hU
    have hr : Region.ready md ops listed = [] := by
      rcases hr : Region.ready md ops listed with _ | ⟨j, t⟩
      · rfl
      · have hj : j ∈ Region.ready md ops listed := by rw [hr]; exact List.mem_cons_self
        have := hu j (mem_ready.1 hj).1
        cases this
    exact ⟨hr, fin listed σ w hs hc hp hr⟩
  | succ n ih =>
    intro U listed σ w hn hs hnd hu hd hc hp hin
    refine ⟨fun hr => fin listed σ w hs hc hp hr, fun i hi => ?_⟩
    obtain ⟨hun, o, ho, hall⟩ := mem_ready.1 hi
    have hiU := hu i hun
    have hlt : i < ops.size := (Array.getElem?_eq_some_iff.1 ho).1
    have hself : listed.getD i false = false := by
      have h' : i < listed.size := by omega
      simpa [Array.getD, h'] using hun
    have hup : ∀ d, waitsB md ops ops.size i d = true → listed.getD d false = true := fun d hw => waits_listed hd _ i d o ho hall hw
    refine wpOp_mono (fun a' w' h => ?_) (hop i o ho (fun i => listed.getD i false) σ w hc ⟨hself, hin, hup, fun d hw => waits_unlisted hd hself _ d hw, fun d hw => hp d (hup d hw)⟩)
    obtain ⟨hC, hst, v, rfl, hPv⟩ := h
    have hdst : dstOf ops i = o.dst := by unfold dstOf; rw [ho]; rfl
    have hS : (fun j => (listed.setIfInBounds i true).getD j false) = mark (fun j => listed.getD j false) i := by
      funext j
      unfold mark
      by_cases hj : j = i
      · subst hj
        have h' : j < listed.size := by omega
        simp [Array.getD, h']
      · rw [if_neg hj, getD_set_ne false (Ne.symm hj)]
    rw [← putAll_upd (v := v) ho (List.range ops.size) a0 List.nodup_range (List.mem_range.2 hlt) (fun j hj hji x hx => apartD_spec ha (List.mem_range.1 hj) hlt hji (by rw [hdst]; exact hx))]
    refine ih (U.erase i) _ _ w' (by rw [List.length_erase_of_mem hiU, hn]; rfl) (by simpa using hs) (hnd.erase i) (fun e he => ?_) (hd.set hi) hC (fun e he => ?_) (fun e he => ?_)
    · by_cases hei : e = i
      · subst hei
        have : listed.size > e := by omega
        simp [Array.getD, this] at he
      · rw [getD_set_ne true (Ne.symm hei)] at he
        exact (List.mem_erase_of_ne hei).2 (hu e he)
    · rw [hS]
      by_cases hei : e = i
      · subst hei
        have : upd σ e v e = v := by simp [upd]
        rw [this]; exact hPv
      · rw [getD_set_ne false (Ne.symm hei)] at he
        have : upd σ i v e = σ e := by simp [upd, hei]
        rw [this]
        exact hst e hei he (hp e he)
    · by_cases hei : e = i
      · subst hei
        have : listed.size > e := by omega
        simp [Array.getD, this] at he
      · rw [getD_set_ne false (Ne.symm hei)] at he
        have : upd σ i v e = σ e := by simp [upd, hei]
        rw [this]
        exact hin e he

/-- **A DRAWN REGION, BY WHAT EACH OPERATION LEAVES.** S: which operations have come up; σ e: what operation e has laid into its slot; Pst S e v w: what is known of it then; C: of the world; A: the slots. -/
theorem wp_region_inv {id : Nat} {l : List Oper} {a : Act} {w : World} {Q : Exit → Act → World → Prop} (C : World → Prop) (Pst : (Nat → Bool) → Nat → Value → World → Prop) (hm : P.follows .mixedOrders = true)
    (hB1 : Region.noSelect l.toArray = true) (hB2 : backE .any l.toArray = true) (hB3 : apartD l.toArray = true) (h0 : C w.drew)
    (A : (Nat → Value) → Act) (hA : ∀ σ, putAll l.toArray σ (List.range l.length) a = A σ)
    (hop : ∀ S σ w', C w' → ∀ e, e < l.length → Known .any l.toArray a Pst S σ w' e → wpOp P l.toArray (NoPanic Q) e (fun a' w'' => C w'' ∧ (∀ d, d ≠ e → S d = true → Pst S d (σ d) w' → Pst (mark S e) d (σ d) w'') ∧ ∃ v, a' = (A σ).put (dstOf l.toArray e) v ∧ Pst (mark S e) e v w'') (A σ) w')
    (hend : ∀ S σ w', C w' → (∀ e, e < l.length → S e = true) → (∀ e, e < l.length → Pst S e (σ e) w') → NoPanic Q .normal (A σ) w') : (Code.region id l.toArray true).wp P Q a w := by
  refine wp_region_noPanic (wp_region_any hm ?_)
  have := wpAnyL_inv (md := .any) (P := P) (Q := NoPanic Q) (ops := l.toArray) (a0 := a) (C := C) (Pst := Pst) hB2 hB3
    (fun e o ho S σ w hc hk => by
      have ho' : l[e]? = some o := by simpa using ho
      have hlt : e < l.length := (List.getElem?_eq_some_iff.1 ho').1
      have hd : o.dst = dstOf l.toArray e := by unfold dstOf; rw [ho]; rfl
      have := hop S σ w hc e hlt hk
      rw [← hA σ] at this
      rw [hd]
      simpa using this)
    (fun S σ w hc hs he => by
      have := hend S σ w hc (fun e hl => hs e (by simpa using hl)) (fun e hl => he e (by simpa using hl))
      rw [← hA σ] at this
      simpa using this) l.toArray.size (List.range l.length) (Array.replicate l.toArray.size false) (start l.toArray a) w.drew (by simp) (by simp) List.nodup_range
    (fun e he => by
      rcases Nat.lt_or_ge e l.length with h | h
      · exact List.mem_range.2 h
      · simp [Array.getD, Nat.not_lt.2 h] at he)
    (fun k ok e _ hl => by simp [Array.getD] at hl) h0 (fun e he => by simp [Array.getD] at he) (fun _ _ => rfl)
  rw [putAll_start] at this
  exact this
end
end Go.Proofs.YtnndmdfjdodiiaaGreat

namespace Go.Proofs.YtnndmdfjdodiiaaGreat
set_option linter.unusedVariables false
set_option linter.unusedSimpArgs false

section
variable {P : Program} {ops : Array Oper} {Q : Exit → Act → World → Prop} {md : Region.Mode}

theorem wpAnyL_rel (hb : backE md ops = true) (ha : apartD ops = true) {C : (Nat → Bool) → (Nat → Value) → World → Prop} {Pst : (Nat → Bool) → Nat → Value → World → Prop} {a0 : Act}
    (hop : ∀ e o, ops[e]? = some o → ∀ S σ w, C S σ w → Known md ops a0 Pst S σ w e → (∀ d, S d = true → Pst S d (σ d) w) → wpOp P ops Q e (fun a' w' => ∃ v, C (mark S e) (upd σ e v) w' ∧ (∀ d, d ≠ e → S d = true → Pst S d (σ d) w → Pst (mark S e) d (σ d) w') ∧ a' = (putAll ops σ (List.range ops.size) a0).put o.dst v ∧ Pst (mark S e) e v w') (putAll ops σ (List.range ops.size) a0) w)
    (hend : ∀ S σ w, C S σ w → (∀ e, e < ops.size → S e = true) → (∀ e, e < ops.size → Pst S e (σ e) w) → Q .normal (putAll ops σ (List.range ops.size) a0) w) :
    ∀ (n : Nat) (U : List Nat) (listed : Array Bool) (σ : Nat → Value) (w : World), U.length = n → listed.size = ops.size → U.Nodup → (∀ e, listed.getD e true = false → e ∈ U) → DC md ops listed → C (fun i => listed.getD i false) σ w → (∀ e, listed.getD e false = true → Pst (fun i => listed.getD i false) e (σ e) w) → (∀ d, listed.getD d false = false → σ d = start ops a0 d) →
      wpAny P md ops Q n listed (putAll ops σ (List.range ops.size) a0) w := by
  have fin : ∀ (listed : Array Bool) (σ : Nat → Value) (w : World), listed.size = ops.size → C (fun i => listed.getD i false) σ w → (∀ e, listed.getD e false = true → Pst (fun i => listed.getD i false) e (σ e) w) → Region.ready md ops listed = [] → Q .normal (putAll ops σ (List.range ops.size) a0) w := by
    intro listed σ w hs hc hp hr
    have hall : ∀ e, e < ops.size → listed.getD e false = true := fun e he => by
      have := all_listed hb hr e he
      simpa [Array.getD, hs, he] using this
    exact hend (fun i => listed.getD i false) σ w hc hall fun e he => hp e (hall e he)
  intro n
  induction n with
  | zero =>
    intro U listed σ w hn hs hnd hu hd hc hp _
    have hU : U = [] := List.eq_nil_of_length_eq_zero hn
    subst hU
    have hr : Region.ready md ops listed = [] := by
      rcases hr : Region.ready md ops listed with _ | ⟨j, t⟩
      · rfl
      · have hj : j ∈ Region.ready md ops listed := by rw [hr]; exact List.mem_cons_self
        have := hu j (mem_ready.1 hj).1
        cases this
    exact ⟨hr, fin listed σ w hs hc hp hr⟩
  | succ n ih =>
    intro U listed σ w hn hs hnd hu hd hc hp hin
    refine ⟨fun hr => fin listed σ w hs hc hp hr, fun i hi => ?_⟩
    obtain ⟨hun, o, ho, hall⟩ := mem_ready.1 hi
    have hiU := hu i hun
    have hlt : i < ops.size := (Array.getElem?_eq_some_iff.1 ho).1
    have hself : listed.getD i false = false := by
      have h' : i < listed.size := by omega
      simpa [Array.getD, h'] using hun
    have hup : ∀ d, waitsB md ops ops.size i d = true → listed.getD d false = true := fun d hw => waits_listed hd _ i d o ho hall hw
    refine wpOp_mono (fun a' w' h => ?_) (hop i o ho (fun i => listed.getD i false) σ w hc ⟨hself, hin, hup, fun d hw => waits_unlisted hd hself _ d hw, fun d hw => hp d (hup d hw)⟩ hp)
    obtain ⟨v, hC, hst, rfl, hPv⟩ := h
    have hdst : dstOf ops i = o.dst := by unfold dstOf; rw [ho]; rfl
    have hS : (fun j => (listed.setIfInBounds i true).getD j false) = mark (fun j => listed.getD j false) i := by
      funext j
      unfold mark
      by_cases hj : j = i
      · subst hj
        have h' : j < listed.size := by omega
        simp [Array.getD, h']
      · rw [if_neg hj, getD_set_ne false (Ne.symm hj)]
    rw [← putAll_upd (v := v) ho (List.range ops.size) a0 List.nodup_range (List.mem_range.2 hlt) (fun j hj hji x hx => apartD_spec ha (List.mem_range.1 hj) hlt hji (by rw [hdst]; exact hx))]
    refine ih (U.erase i) _ _ w' (by rw [List.length_erase_of_mem hiU, hn]; rfl) (by simpa using hs) (hnd.erase i) (fun e he => ?_) (hd.set hi) (by rw [hS]; exact hC) (fun e he => ?_) (fun e he => ?_)
    · by_cases hei : e = i
      · subst hei
        have : listed.size > e := by omega
        simp [Array.getD, this] at he
      · rw [getD_set_ne true (Ne.symm hei)] at he
        exact (List.mem_erase_of_ne hei).2 (hu e he)
    · rw [hS]
      by_cases hei : e = i
      · subst hei
        have : upd σ e v e = v := by simp [upd]
        rw [this]; exact hPv
      · rw [getD_set_ne false (Ne.symm hei)] at he
        have : upd σ i v e = σ e := by simp [upd, hei]
        rw [this]
        exact hst e hei he (hp e he)
    · by_cases hei : e = i
      · subst hei
        have : listed.size > e := by omega
        simp [Array.getD, this] at he
      · rw [getD_set_ne false (Ne.symm hei)] at he
        have : upd σ i v e = σ e := by simp [upd, hei]
        rw [this]
        exact hin e he

/-- As wp_region_inv; C may say how what the operations left goes together. -/
theorem wp_region_rel {id : Nat} {l : List Oper} {a : Act} {w : World} {Q : Exit → Act → World → Prop} (C : (Nat → Bool) → (Nat → Value) → World → Prop) (Pst : (Nat → Bool) → Nat → Value → World → Prop) (hm : P.follows .mixedOrders = true)
    (hB1 : Region.noSelect l.toArray = true) (hB2 : backE .any l.toArray = true) (hB3 : apartD l.toArray = true) (h0 : ∀ S σ, (∀ i, S i = false) → C S σ w.drew)
    (A : (Nat → Value) → Act) (hA : ∀ σ, putAll l.toArray σ (List.range l.length) a = A σ)
    (hop : ∀ S σ w', C S σ w' → (∀ d, S d = true → Pst S d (σ d) w') → ∀ e, e < l.length → Known .any l.toArray a Pst S σ w' e → wpOp P l.toArray (NoPanic Q) e (fun a' w'' => ∃ v, C (mark S e) (upd σ e v) w'' ∧ (∀ d, d ≠ e → S d = true → Pst S d (σ d) w' → Pst (mark S e) d (σ d) w'') ∧ a' = (A σ).put (dstOf l.toArray e) v ∧ Pst (mark S e) e v w'') (A σ) w')
    (hend : ∀ S σ w', C S σ w' → (∀ e, e < l.length → S e = true) → (∀ e, e < l.length → Pst S e (σ e) w') → NoPanic Q .normal (A σ) w') : (Code.region id l.toArray true).wp P Q a w := by
  refine wp_region_noPanic (wp_region_any hm ?_)
  have := wpAnyL_rel (md := .any) (P := P) (Q := NoPanic Q) (ops := l.toArray) (a0 := a) (C := C) (Pst := Pst) hB2 hB3
    (fun e o ho S σ w hc hk hall => by
      have ho' : l[e]? = some o := by simpa using ho
      have hlt : e < l.length := (List.getElem?_eq_some_iff.1 ho').1
      have hd : o.dst = dstOf l.toArray e := by unfold dstOf; rw [ho]; rfl
      have := hop S σ w hc hall e hlt hk
      rw [← hA σ] at this
      rw [hd]
      simpa using this)
    (fun S σ w hc hs he => by
      have := hend S σ w hc (fun e hl => hs e (by simpa using hl)) (fun e hl => he e (by simpa using hl))
      rw [← hA σ] at this
      simpa using this) l.toArray.size (List.range l.length) (Array.replicate l.toArray.size false) (start l.toArray a) w.drew (by simp) (by simp) List.nodup_range
    (fun e he => by
      rcases Nat.lt_or_ge e l.length with h | h
      · exact List.mem_range.2 h
      · simp [Array.getD, Nat.not_lt.2 h] at he)
    (fun k ok e _ hl => by simp [Array.getD] at hl) (h0 _ _ fun i => by simp [Array.getD]) (fun e he => by simp [Array.getD] at he) (fun _ _ => rfl)
  rw [putAll_start] at this
  exact this
end
end Go.Proofs.YtnndmdfjdodiiaaGreat
