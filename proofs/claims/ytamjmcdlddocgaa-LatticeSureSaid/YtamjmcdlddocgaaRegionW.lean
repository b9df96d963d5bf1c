/- A region whose order is drawn, by what each operation leaves, with a relation among what they leave. -/
import Derived.Test.YtamjmcdlddocgaaRegionV
namespace Go.Proofs.Ytamjmcdlddocgaa
set_option linter.unusedVariables false
set_option linter.unusedSimpArgs false

section
variable {P : Program} {ops : Array Oper} {Q : Exit → Act → World → Prop} {md : Region.Mode}

theorem wpAnyL_rel (hb : backE md ops = true) (ha : apartD ops = true) {C : (Nat → Bool) → (Nat → Value) → World → Prop} {Pst : (Nat → Bool) → Nat → Value → World → Prop} {a0 : Act}
    (hop : ∀ e o, ops[e]? = some o → ∀ S σ w, C S σ w → Known md ops a0 Pst S σ w e → (∀ d, S d = true → Pst S d (σ d) w) → wpOp P ops Q e (fun a' w' => ∃ v, C (mark S e) (upd σ e v) w' ∧ (∀ d, d ≠ e → S d = true → Pst S d (σ d) w → Pst (mark S e) d (σ d) w') ∧ a' = (putAll ops σ (List.range ops.size) a0).put o.dst v ∧ Pst (mark S e) e v w') (putAll ops σ (List.range ops.size) a0) w)
    (hend : ∀ S σ w, C S σ w → (∀ e, e < ops.size → S e = true) → (∀ e, e < ops.size → Pst S e (σ e) w) → Q .normal (putAll ops σ (List.range ops.size) a0) w) :
    ∀ (n : Nat) (U : List Nat) (listed : Array Bool) (σ : Nat → Value) (w : World), U.length = n → listed.size = ops.size → U.Nodup → (∀ e, listed.getD e true = false → e ∈ U) → DC md ops listed → C (fun i => listed.getD i false) σ w → (∀ e, listed.getD e false = true → Pst (fun i => listed.getD i false) e (σ e) w) → (∀ d, listed.getD d false = false → σ d = start ops a0 d) →
      wpAny P md ops Q n listed (putAll ops σ (List.range ops.size) a0) w := by
  have fin : ∀ (listed : Array Bool) (σ : Nat → Value) (w : World), listed.size = ops.size → C (fun i => listed.getD i false) σ w → (∀ e, listed.getD e false = true → Pst (fun i => listed.getD i false) e (σ e) w) → Region.ready md ops listed = [] → Q .normal (putAll ops σ (List.range ops.size) a0) w := by
    intro listed σ w hs hc hp hr
    have hall : ∀ e, e < ops.size → listed.getD e false = true := fun e he => by
      have := all_listed hb hr e he
      simpa [Array.getD, hs, he] using this
    exact hend (fun i => listed.getD i false) σ w hc hall fun e he => hp e (hall e he)
  intro n
  induction n with
  | zero =>
    intro U listed σ w hn hs hnd hu hd hc hp _
    have hU : U = [] := List.eq_nil_of_length_eq_zero hn
    subst hU
    have hr : Region.ready md ops listed = [] := by
      rcases hr : Region.ready md ops listed with _ | ⟨j, t⟩
      · rfl
      · have hj : j ∈ Region.ready md ops listed := by rw [hr]; exact List.mem_cons_self
        have := hu j (mem_ready.1 hj).1
        cases this
    exact ⟨hr, fin listed σ w hs hc hp hr⟩
  | succ n ih =>
    intro U listed σ w hn hs hnd hu hd hc hp hin
    refine ⟨fun hr => fin listed σ w hs hc hp hr, fun i hi => ?_⟩
    obtain ⟨hun, o, ho, hall⟩ := mem_ready.1 hi
    have hiU := hu i hun
    have hlt : i < ops.size := (Array.getElem?_eq_some_iff.1 ho).1
    have hself : listed.getD i false = false := by
      have h' : i < listed.size := by omega
      simpa [Array.getD, h'] using hun
    have hup : ∀ d, waitsB md ops ops.size i d = true → listed.getD d false = true := fun d hw => waits_listed hd _ i d o ho hall hw
    refine wpOp_mono (fun a' w' h => ?_) (hop i o ho (fun i => listed.getD i false) σ w hc ⟨hself, hin, hup, fun d hw => waits_unlisted hd hself _ d hw, fun d hw => hp d (hup d hw)⟩ hp)
    obtain ⟨v, hC, hst, rfl, hPv⟩ := h
    have hdst : dstOf ops i = o.dst := by unfold dstOf; rw [ho]; rfl
    have hS : (fun j => (listed.setIfInBounds i true).getD j false) = mark (fun j => listed.getD j false) i := by
      funext j
      unfold mark
      by_cases hj : j = i
      · subst hj
        have h' : j < listed.size := by omega
        simp [Array.getD, h']
      · rw [if_neg hj, getD_set_ne false (Ne.symm hj)]
    rw [← putAll_upd (v := v) ho (List.range ops.size) a0 List.nodup_range (List.mem_range.2 hlt) (fun j hj hji x hx => apartD_spec ha (List.mem_range.1 hj) hlt hji (by rw [hdst]; exact hx))]
    refine ih (U.erase i) _ _ w' (by rw [List.length_erase_of_mem hiU, hn]; rfl) (by simpa using hs) (hnd.erase i) (fun e he => ?_) (hd.set hi) (by rw [hS]; exact hC) (fun e he => ?_) (fun e he => ?_)
    · by_cases hei : e = i
      · subst hei
        have : listed.size > e := by omega
        simp [Array.getD, this] at he
      · rw [getD_set_ne true (Ne.symm hei)] at he
        exact (List.mem_erase_of_ne hei).2 (hu e he)
    · rw [hS]
      by_cases hei : e = i
      · subst hei
        have : upd σ e v e = v := by simp [upd]
        rw [this]; exact hPv
      · rw [getD_set_ne false (Ne.symm hei)] at he
        have : upd σ i v e = σ e := by simp [upd, hei]
        rw [this]
        exact hst e hei he (hp e he)
    · by_cases hei : e = i
      · subst hei
        have : listed.size > e := by omega
        simp [Array.getD, this] at he
      · rw [getD_set_ne false (Ne.symm hei)] at he
        have : upd σ i v e = σ e := by simp [upd, hei]
        rw [this]
        exact hin e he

/-- As wp_region_inv; C may say how what the operations left goes together. -/
theorem wp_region_rel {id : Nat} {l : List Oper} {a : Act} {w : World} {Q : Exit → Act → World → Prop} (C : (Nat → Bool) → (Nat → Value) → World → Prop) (Pst : (Nat → Bool) → Nat → Value → World → Prop) (hm : P.follows .mixedOrders = true)
    (hB1 : Region.noSelect l.toArray = true) (hB2 : backE .any l.toArray = true) (hB3 : apartD l.toArray = true) (h0 : ∀ S σ, (∀ i, S i = false) → C S σ w.drew)
    (A : (Nat → Value) → Act) (hA : ∀ σ, putAll l.toArray σ (List.range l.length) a = A σ)
    (hop : ∀ S σ w', C S σ w' → (∀ d, S d = true → Pst S d (σ d) w') → ∀ e, e < l.length → Known .any l.toArray a Pst S σ w' e → wpOp P l.toArray (NoPanic Q) e (fun a' w'' => ∃ v, C (mark S e) (upd σ e v) w'' ∧ (∀ d, d ≠ e → S d = true → Pst S d (σ d) w' → Pst (mark S e) d (σ d) w'') ∧ a' = (A σ).put (dstOf l.toArray e) v ∧ Pst (mark S e) e v w'') (A σ) w')
    (hend : ∀ S σ w', C S σ w' → (∀ e, e < l.length → S e = true) → (∀ e, e < l.length → Pst S e (σ e) w') → NoPanic Q .normal (A σ) w') : (Code.region id l.toArray true).wp P Q a w := by
  refine wp_region_noPanic (wp_region_any hm ?_)
  have := wpAnyL_rel (md := .any) (P := P) (Q := NoPanic Q) (ops := l.toArray) (a0 := a) (C := C) (Pst := Pst) hB2 hB3
    (fun e o ho S σ w hc hk hall => by
      have ho' : l[e]? = some o := by simpa using ho
      have hlt : e < l.length := (List.getElem?_eq_some_iff.1 ho').1
      have hd : o.dst = dstOf l.toArray e := by unfold dstOf; rw [ho]; rfl
      have := hop S σ w hc hall e hlt hk
      rw [← hA σ] at this
      rw [hd]
      simpa using this)
    (fun S σ w hc hs he => by
      have := hend S σ w hc (fun e hl => hs e (by simpa using hl)) (fun e hl => he e (by simpa using hl))
      rw [← hA σ] at this
      simpa using this) l.toArray.size (List.range l.length) (Array.replicate l.toArray.size false) (start l.toArray a) w.drew (by simp) (by simp) List.nodup_range
    (fun e he => by
      rcases Nat.lt_or_ge e l.length with h | h
      · exact List.mem_range.2 h
      · simp [Array.getD, Nat.not_lt.2 h] at he)
    (fun k ok e _ hl => by simp [Array.getD] at hl) (h0 _ _ fun i => by simp [Array.getD]) (fun e he => by simp [Array.getD] at he) (fun _ _ => rfl)
  rw [putAll_start] at this
  exact this
end
end Go.Proofs.Ytamjmcdlddocgaa
