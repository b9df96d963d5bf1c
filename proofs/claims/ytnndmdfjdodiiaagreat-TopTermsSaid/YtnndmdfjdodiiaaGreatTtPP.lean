/- Units and a search that learns, plain: it is right and ends. Classes of terms, plain. Judge and solver, plain. Equalities that are told outright, plain. -/
import Derived.Test.YtnndmdfjdodiiaaGreatTaAA
namespace Go.Proofs.YtnndmdfjdodiiaaGreat
set_option linter.unusedVariables false
set_option linter.unusedSimpArgs false

namespace Cd
/-! Package unit: propagation. -/
/-- A clause under the literals of a trail: is it false; its open literal, if it is the only one. -/
def stG (T : List Int) : List Int → Int → Bool × Int
  | [], o => (decide (o = 0), o)
  | l :: c, o => if -l ∈ T then stG T c o else if l ∈ T ∨ o ≠ 0 then (false, 0) else stG T c l
def stF (T c : List Int) : Bool × Int := stG T c 0
/-- One pass over the clauses: the first false one, or the first one that is unit. -/
def scanG (T : List Int) : List (List Int) → Nat → Option Nat → Sum Nat (Option Nat)
  | [], _, f => .inr f
  | c :: l, i, f => if (stF T c).1 then .inl i else scanG T l (i + 1) (if (stF T c).2 ≠ 0 ∧ f = none then some i else f)
structure Tr where
  lits : List Int
  why : List Int
/-- Run: the trail behind it, and the first false clause, or -1. -/
def runF : Nat → List (List Int) → Tr → Tr × Int
  | 0, _, t => (t, -1)
  | n + 1, cls, t => match scanG t.lits cls 0 none with
    | .inl i => (t, i)
    | .inr none => (t, -1)
    | .inr (some i) => runF n cls ⟨t.lits ++ [(stF t.lits (cls.getD i [])).2], t.why ++ [(i : Int)]⟩

theorem stG_open {T : List Int} {c : List Int} {o x : Int} (h : stG T c o = (false, x)) (hx : x ≠ 0) (ho : o ≠ 0 ∨ (∀ l ∈ c, l ≠ 0)) : (x = o ∨ x ∈ c ∧ x ∉ T ∧ -x ∉ T) ∧ ∀ l ∈ c, l = x ∨ -l ∈ T := by
  induction c generalizing o with
  | nil => simp [stG] at h; exact ⟨.inl h.2.symm, by simp⟩
  | cons l c ih =>
    unfold stG at h
    split at h
    · rename_i hl
      obtain ⟨h1, h2⟩ := ih h (ho.imp_right fun k a ha => k a (List.mem_cons_of_mem _ ha))
      refine ⟨h1.imp_right fun k => ⟨List.mem_cons_of_mem _ k.1, k.2⟩, fun a ha => ?_⟩
      rcases List.mem_cons.1 ha with rfl | ha
      · exact .inr hl
      · exact h2 a ha
    · rename_i hl
      split at h
      · cases h; exact absurd rfl hx
      · rename_i hk
        have hk1 : l ∉ T := fun k => hk (.inl k)
        have hk2 : o = 0 := Classical.byContradiction fun k => hk (.inr k)
        have hl0 : l ≠ 0 := by
          rcases ho with k | k
          · exact absurd hk2 k
          · exact k l (List.mem_cons_self ..)
        obtain ⟨h1, h2⟩ := ih h (.inl hl0)
        refine ⟨.inr ?_, fun a ha => ?_⟩
        · rcases h1 with rfl | k
          · exact ⟨List.mem_cons_self .., hk1, hl⟩
          · exact ⟨List.mem_cons_of_mem _ k.1, k.2⟩
        · rcases List.mem_cons.1 ha with rfl | ha
          · -- the open literal is kept
            left
            have key : ∀ (c : List Int) (o x : Int), o ≠ 0 → stG T c o = (false, x) → x ≠ 0 → x = o := by
              intro c
              induction c with
              | nil => intro o x _ h _; simp [stG] at h; exact h.2.symm
              | cons b c ih => 
                intro o x h0 h hx
                unfold stG at h
                split at h
                · exact ih o x h0 h hx
                · split at h
                  · cases h; exact absurd rfl hx
                  · rename_i q; exact absurd (.inr h0) q
            exact (key c a x hl0 h hx).symm
          · exact h2 a ha
theorem stG_false {T : List Int} {c : List Int} {o x : Int} (h : stG T c o = (true, x)) (ho : o ≠ 0 ∨ ∀ l ∈ c, l ≠ 0) : o = 0 ∧ ∀ l ∈ c, -l ∈ T := by
  induction c generalizing o with
  | nil => simp [stG] at h; exact ⟨h.1, by simp⟩
  | cons l c ih =>
    unfold stG at h
    split at h
    · rename_i hl
      obtain ⟨h1, h2⟩ := ih h (ho.imp_right fun k a ha => k a (List.mem_cons_of_mem _ ha))
      refine ⟨h1, fun a ha => ?_⟩
      rcases List.mem_cons.1 ha with rfl | ha
      · exact hl
      · exact h2 a ha
    · split at h
      · cases h
      · rename_i hk
        have hk2 : o = 0 := Classical.byContradiction fun k => hk (.inr k)
        have hl0 : l ≠ 0 := by
          rcases ho with k | k
          · exact absurd hk2 k
          · exact k l (List.mem_cons_self ..)
        exact absurd (ih h (.inl hl0)).1 hl0
/-- All literals false: the clause is told to be false. -/
theorem stG_of {T : List Int} {c : List Int} (h : ∀ l ∈ c, -l ∈ T) (o : Int) : stG T c o = (decide (o = 0), o) := by
  induction c with
  | nil => rfl
  | cons l c ih => unfold stG; rw [if_pos (h l (List.mem_cons_self ..))]; exact ih fun a ha => h a (List.mem_cons_of_mem _ ha)
/-- All literals but one false. -/
theorem stG_one {T : List Int} {c : List Int} {x : Int} (h : ∀ l ∈ c, l = x ∨ -l ∈ T) (hx : x ∉ T) (hx' : -x ∉ T) (h0 : x ≠ 0) (hn : c.Nodup) (hm : x ∈ c) : stG T c 0 = (false, x) := by
  induction c with
  | nil => cases hm
  | cons l c ih =>
    unfold stG
    rcases h l (List.mem_cons_self ..) with rfl | hl
    · rw [if_neg hx', if_neg (by simp [hx])]
      rw [List.nodup_cons] at hn
      rw [stG_of fun a ha => (h a (List.mem_cons_of_mem _ ha)).resolve_left (by rintro rfl; exact hn.1 ha)]
      simp [h0]
    · have hxl : x ≠ l := by rintro rfl; exact hx' hl
      rw [if_pos hl]
      rw [List.nodup_cons] at hn
      exact ih (fun a ha => h a (List.mem_cons_of_mem _ ha)) hn.2 ((List.mem_cons.1 hm).resolve_left hxl)
theorem scanG_inl {T : List Int} {cls : List (List Int)} {i : Nat} {f : Option Nat} {k : Nat} (h : scanG T cls i f = .inl k) : i ≤ k ∧ ∃ c, cls[k - i]? = some c ∧ (stF T c).1 = true := by
  induction cls generalizing i f with
  | nil => cases h
  | cons c l ih =>
    unfold scanG at h
    split at h
    · rename_i hc; cases h; exact ⟨Nat.le_refl _, c, by simp, hc⟩
    · obtain ⟨h1, d, h2, h3⟩ := ih h
      refine ⟨by omega, d, ?_, h3⟩
      rw [show k - i = (k - (i + 1)) + 1 from by omega, List.getElem?_cons_succ]; exact h2
theorem scanG_inr {T : List Int} {cls : List (List Int)} {i : Nat} {f g : Option Nat} (h : scanG T cls i f = .inr g) : (∀ c ∈ cls, (stF T c).1 = false) ∧ (g = none → f = none ∧ ∀ c ∈ cls, (stF T c).2 = 0) ∧ ∀ k, g = some k → f = some k ∨ (i ≤ k ∧ ∃ c, cls[k - i]? = some c ∧ (stF T c).2 ≠ 0) := by
  induction cls generalizing i f with
  | nil => cases h; exact ⟨by simp, fun h => ⟨h, by simp⟩, fun k h => .inl h⟩
  | cons c l ih =>
    unfold scanG at h
    split at h
    · cases h
    · rename_i hc
      obtain ⟨h1, h2, h3⟩ := ih h
      refine ⟨fun d hd => ?_, fun hg => ?_, fun k hk => ?_⟩
      · rcases List.mem_cons.1 hd with rfl | hd
        · simpa using hc
        · exact h1 d hd
      · obtain ⟨e, h4⟩ := h2 hg
        split at e
        · cases e
        · rename_i hq
          subst e
          refine ⟨rfl, fun d hd => ?_⟩
          rcases List.mem_cons.1 hd with rfl | hd
          · exact Classical.byContradiction fun q => hq ⟨q, rfl⟩
          · exact h4 d hd
      · rcases h3 k hk with e | ⟨h4, d, h5, h6⟩
        · split at e
          · rename_i hq; cases e; exact .inr ⟨Nat.le_refl _, c, by simp, hq.1⟩
          · exact .inl e
        · refine .inr ⟨by omega, d, ?_, h6⟩
          rw [show k - i = (k - (i + 1)) + 1 from by omega, List.getElem?_cons_succ]; exact h5
/-- The literals of a trail: of different variables, in range. -/
def GoodT (vars : Nat) (T : List Int) : Prop := (T.map Int.natAbs).Nodup ∧ ∀ l ∈ T, l ≠ 0 ∧ l.natAbs ≤ vars
def ClsOK (vars : Nat) (cls : List (List Int)) : Prop := ∀ c ∈ cls, (c.map Int.natAbs).Nodup ∧ ∀ l ∈ c, l ≠ 0 ∧ l.natAbs ≤ vars
theorem nodup_le {n : Nat} {l : List Nat} (h : l.Nodup) (hl : ∀ x ∈ l, 1 ≤ x ∧ x ≤ n) : l.length ≤ n := by
  induction n generalizing l with
  | zero => cases l with
    | nil => simp
    | cons a l => have := hl a (List.mem_cons_self ..); omega
  | succ n ih =>
    by_cases hm : (n + 1) ∈ l
    · have h2 := ih (l := l.erase (n + 1)) (h.erase _) fun x hx => by
        have h3 := hl x (List.mem_of_mem_erase hx)
        have h4 : x ≠ n + 1 := by rintro rfl; exact (List.Nodup.mem_erase_iff h).1 hx |>.1 rfl
        omega
      rw [List.length_erase_of_mem hm] at h2
      omega
    · exact Nat.le_succ_of_le (ih h fun x hx => by
        have h3 := hl x hx
        have h4 : x ≠ n + 1 := by rintro rfl; exact hm hx
        omega)
theorem GoodT.le {vars : Nat} {T : List Int} (h : GoodT vars T) : T.length ≤ vars := by
  have := nodup_le h.1 (n := vars) fun x hx => by
    obtain ⟨l, hl, rfl⟩ := List.mem_map.1 hx
    have := h.2 l hl
    omega
  simpa using this
theorem GoodT.push {vars : Nat} {T : List Int} (h : GoodT vars T) {x : Int} (h0 : x ≠ 0) (hv : x.natAbs ≤ vars) (hx : x ∉ T) (hx' : -x ∉ T) : GoodT vars (T ++ [x]) := by
  refine ⟨?_, fun l hl => ?_⟩
  · rw [List.map_append, List.nodup_append]
    refine ⟨h.1, by simp, fun a ha b hb => ?_⟩
    obtain ⟨l, hl, rfl⟩ := List.mem_map.1 ha
    simp at hb
    subst hb
    intro e
    have : l = x ∨ l = -x := by omega
    rcases this with rfl | rfl
    · exact hx hl
    · exact hx' hl
  · rcases List.mem_append.1 hl with hl | hl
    · exact h.2 l hl
    · simp at hl; subst hl; exact ⟨h0, hv⟩
theorem stF_unit {vars : Nat} {T c : List Int} (hc : ∀ l ∈ c, l ≠ 0 ∧ l.natAbs ≤ vars) (h1 : (stF T c).1 = false) (h2 : (stF T c).2 ≠ 0) : (stF T c).2 ∈ c ∧ (stF T c).2 ∉ T ∧ -(stF T c).2 ∉ T ∧ ∀ l ∈ c, l = (stF T c).2 ∨ -l ∈ T := by
  have e : stG T c 0 = (false, (stF T c).2) := by rw [← h1]; rfl
  obtain ⟨h3, h4⟩ := stG_open e h2 (.inr fun l hl => (hc l hl).1)
  rcases h3 with h3 | h3
  · exact absurd h3 h2
  · exact ⟨h3.1, h3.2.1, h3.2.2, h4⟩
theorem mem_getD {cls : List (List Int)} {k : Nat} {c : List Int} (h : cls[k]? = some c) : cls.getD k [] = c ∧ c ∈ cls := by
  rw [List.getD_eq_getElem?_getD, h]; exact ⟨rfl, List.mem_of_getElem? h⟩
/-- A trail's reasons: a literal with a clause stands in it, and the negations of the others stand ahead of it. -/
def WhyT (cls : List (List Int)) (t : Tr) : Prop := t.why.length = t.lits.length ∧ ∀ (i : Nat) (l : Int), t.lits[i]? = some l → ∃ y : Int, t.why[i]? = some y ∧ (y = -1 ∨ ∃ k : Nat, y = k ∧ ∃ c, cls[k]? = some c ∧ l ∈ c ∧ ∀ a ∈ c, a = l ∨ -a ∈ t.lits.take i)
structure RunQ (vars : Nat) (cls : List (List Int)) (t : Tr) (r : Tr × Int) : Prop where
  good : GoodT vars r.1.lits
  why : WhyT cls r.1
  pre : ∃ L W : List Int, r.1.lits = t.lits ++ L ∧ r.1.why = t.why ++ W ∧ L.length = W.length ∧ ∀ y ∈ W, y ≠ -1
  bad : r.2 ≠ -1 → ∃ k : Nat, r.2 = k ∧ ∃ c, cls[k]? = some c ∧ ∀ l ∈ c, -l ∈ r.1.lits
  done : r.2 = -1 → ∀ c ∈ cls, stF r.1.lits c = (false, 0)
theorem why_push {cls : List (List Int)} {t : Tr} (h : WhyT cls t) {k : Nat} {c : List Int} (hk : cls[k]? = some c) {x : Int} (hx : x ∈ c) (ho : ∀ l ∈ c, l = x ∨ -l ∈ t.lits) : WhyT cls ⟨t.lits ++ [x], t.why ++ [(k : Int)]⟩ := by
  refine ⟨by simp [h.1], fun i l hl => ?_⟩
  rcases Nat.lt_or_ge i t.lits.length with hi | hi
  · rw [List.getElem?_append_left hi] at hl
    obtain ⟨y, hy, hq⟩ := h.2 i l hl
    refine ⟨y, by rw [List.getElem?_append_left (by rw [h.1]; exact hi)]; exact hy, hq.imp_right ?_⟩
    rintro ⟨k', e, c', h1, h2, h3⟩
    exact ⟨k', e, c', h1, h2, fun a ha => (h3 a ha).imp_right fun q => by rw [List.take_append_of_le_length (Nat.le_of_lt hi)]; exact q⟩
  · have hi' : i < t.lits.length + 1 := by
      rcases Nat.lt_or_ge i (t.lits.length + 1) with q | q
      · exact q
      · rw [List.getElem?_eq_none (by simpa using q)] at hl; cases hl
    obtain rfl : i = t.lits.length := by omega
    rw [List.getElem?_append_right (Nat.le_refl _)] at hl
    simp at hl
    subst hl
    refine ⟨k, by rw [← h.1]; simp, .inr ⟨k, rfl, c, hk, hx, fun a ha => (ho a ha).imp_right fun q => by simpa using q⟩⟩
theorem run_told {vars : Nat} {cls : List (List Int)} (hc : ClsOK vars cls) : ∀ (n : Nat) (t : Tr), GoodT vars t.lits → WhyT cls t → vars < n + t.lits.length → RunQ vars cls t (runF n cls t) := by
  intro n
  induction n with
  | zero => intro t hg hw hn; have := hg.le; omega
  | succ n ih =>
    intro t hg hw hn
    have self : ∃ L W : List Int, t.lits = t.lits ++ L ∧ t.why = t.why ++ W ∧ L.length = W.length ∧ ∀ y ∈ W, y ≠ -1 := ⟨[], [], by simp, by simp, rfl, by simp⟩
    unfold runF
    rcases hs : scanG t.lits cls 0 none with i | g
    · obtain ⟨-, c, h1, h2⟩ := scanG_inl hs
      have e : stG t.lits c 0 = (true, (stF t.lits c).2) := by rw [← h2]; rfl
      refine ⟨hg, hw, self, fun _ => ⟨i, rfl, c, by simpa using h1, (stG_false e (.inr fun l hl => ((hc c (List.mem_of_getElem? h1)).2 l hl).1)).2⟩, fun h => ?_⟩
      simp only at h
      omega
    · obtain ⟨h1, h2, h3⟩ := scanG_inr hs
      rcases g with _ | i
      · refine ⟨hg, hw, self, fun h => absurd rfl h, fun _ c hcc => ?_⟩
        exact Prod.ext (h1 c hcc) ((h2 rfl).2 c hcc)
      · rcases h3 i rfl with q | ⟨-, c, h4, h5⟩
        · cases q
        · rw [Nat.sub_zero] at h4
          obtain ⟨e, hm⟩ := mem_getD h4
          obtain ⟨u1, u2, u3, u4⟩ := stF_unit (vars := vars) (hc c hm).2 (h1 c hm) h5
          simp only
          rw [e]
          have r := ih ⟨t.lits ++ [(stF t.lits c).2], t.why ++ [(i : Int)]⟩ (hg.push h5 ((hc c hm).2 _ u1).2 u2 u3) (why_push hw h4 u1 u4) (by simp; omega)
          refine ⟨r.good, r.why, ?_, r.bad, r.done⟩
          obtain ⟨L, W, h6, h7, h8, h9⟩ := r.pre
          refine ⟨(stF t.lits c).2 :: L, (i : Int) :: W, by rw [h6]; simp, by rw [h7]; simp, by simp [h8], fun y hy => ?_⟩
          rcases List.mem_cons.1 hy with rfl | hy
          · omega
          · exact h9 y hy
end Cd
namespace Cd
/-! Package cdcl: the search. -/
def ClosedT (cls : List (List Int)) (T : List Int) : Prop := ∀ c ∈ cls, stF T c = (false, 0)
/-- Propagation alone refutes that no literal of c holds. -/
def Rup (cls : List (List Int)) (c : List Int) : Prop := ∀ T : List Int, ClosedT cls T → (∀ l ∈ c, -l ∈ T) → False
theorem closed_not {cls : List (List Int)} {T c : List Int} (h : ClosedT cls T) (hc : c ∈ cls) (hf : ∀ l ∈ c, -l ∈ T) : False := by
  have := h c hc
  unfold stF at this
  rw [stG_of hf] at this
  cases this
theorem closed_mem {cls : List (List Int)} {T c : List Int} {x : Int} (h : ClosedT cls T) (hc : c ∈ cls) (hn : c.Nodup) (hx : x ∈ c) (h0 : x ≠ 0) (hf : ∀ l ∈ c, l = x ∨ -l ∈ T) : x ∈ T := by
  apply Classical.byContradiction
  intro hxT
  by_cases hx' : -x ∈ T
  · exact closed_not h hc fun l hl => by rcases hf l hl with rfl | q; exact hx'; exact q
  · have := h c hc
    unfold stF at this
    rw [stG_one hf hxT hx' h0 hn hx] at this
    cases this
    exact h0 rfl
theorem stG_open2 {T c : List Int} {o b : Int} (ho : o ≠ 0) (hb : b ∈ c) (hb' : -b ∉ T) : stG T c o = (false, 0) := by
  induction c with
  | nil => cases hb
  | cons l c ih =>
    unfold stG
    rcases List.mem_cons.1 hb with rfl | hb
    · rw [if_neg hb', if_pos (.inr ho)]
    · split
      · exact ih hb
      · rw [if_pos (.inr ho)]
theorem stG_two {T c : List Int} {a b : Int} (h0 : ∀ l ∈ c, l ≠ 0) (ha : a ∈ c) (hb : b ∈ c) (hab : a ≠ b) (ha' : -a ∉ T) (hb' : -b ∉ T) : stG T c 0 = (false, 0) := by
  induction c with
  | nil => cases ha
  | cons l c ih =>
    unfold stG
    by_cases hl : -l ∈ T
    · rw [if_pos hl]
      refine ih (fun x hx => h0 x (List.mem_cons_of_mem _ hx)) ?_ ?_
      · rcases List.mem_cons.1 ha with rfl | ha
        · exact absurd hl ha'
        · exact ha
      · rcases List.mem_cons.1 hb with rfl | hb
        · exact absurd hl hb'
        · exact hb
    · rw [if_neg hl]
      split
      · rfl
      · have hl0 := h0 l (List.mem_cons_self ..)
        rcases List.mem_cons.1 ha with rfl | ha
        · exact stG_open2 hl0 ((List.mem_cons.1 hb).resolve_left (Ne.symm hab)) hb'
        · exact stG_open2 hl0 ha ha'
theorem stG_true {T c : List Int} {x : Int} (o : Int) (hx : x ∈ c) (hT : x ∈ T) (hn : ∀ l ∈ c, -l ∈ T → l ∉ T) : stG T c o = (false, 0) ∨ ∃ a ∈ c, -a ∉ T ∧ a ∉ T := by
  induction c generalizing o with
  | nil => cases hx
  | cons l c ih =>
    unfold stG
    have hn' : ∀ l ∈ c, -l ∈ T → l ∉ T := fun a ha => hn a (List.mem_cons_of_mem _ ha)
    by_cases hl : -l ∈ T
    · rw [if_pos hl]
      have hxl : x ≠ l := by rintro rfl; exact hn x (List.mem_cons_self ..) hl hT
      exact (ih o ((List.mem_cons.1 hx).resolve_left hxl) hn').imp_right fun ⟨a, ha, q⟩ => ⟨a, List.mem_cons_of_mem _ ha, q⟩
    · rw [if_neg hl]
      by_cases hl2 : l ∈ T
      · rw [if_pos (.inl hl2)]; exact .inl rfl
      · exact .inr ⟨l, List.mem_cons_self .., hl, hl2⟩

structure SS where
  t : Tr
  cls : List (List Int)
  levels : List Nat
  level : Nat
  learned : List (List Int)
def propF (vars : Nat) (s : SS) : SS × Int :=
  let r := runF (vars + 1) s.cls s.t
  ({ s with t := r.1, levels := s.levels ++ List.replicate (r.1.lits.length - s.levels.length) s.level }, r.2)
def atF (s : SS) (l : Int) : Nat := s.t.lits.idxOf (-l)
def lvF (s : SS) (l : Int) : Nat := s.levels.getD (atF s l) 0
def lateF (s : SS) : List Int → Int → Nat → Int × Nat
  | [], la, n => (la, n)
  | l :: c, la, n => if lvF s l = s.level then lateF s c (if la = 0 ∨ atF s la < atF s l then l else la) (n + 1) else lateF s c la n
def addF (x : Int) : List Int → List Int → List Int
  | [], c => c
  | l :: r, c => addF x r (if l ≠ x ∧ l ∉ c then c ++ [l] else c)
def resF (s : SS) : Nat → List Int → List Int
  | 0, c => c
  | n + 1, c => let p := lateF s c 0 0
    if p.2 < 2 then c else resF s n (addF (-p.1) (s.cls.getD (s.t.why.getD (atF s p.1) 0).toNat []) (c.filter (· ≠ p.1)))
def topF (s : SS) : List Int → Nat → Nat
  | [], b => b
  | l :: c, b => topF s c (if lvF s l < s.level then max b (lvF s l) else b)
def anF (s : SS) (bad : Nat) : List Int × Nat :=
  let c := (resF s (s.t.lits.length + 1) (s.cls.getD bad [])).filter (lvF s · ≠ 0)
  (c, topF s c 0)
def keepF (l : List Nat) (b : Nat) : Nat := (l.takeWhile (· ≤ b)).length
def backF (s : SS) (b : Nat) : SS :=
  let k := keepF s.levels b
  { s with t := ⟨s.t.lits.take k, s.t.why.take k⟩, levels := s.levels.take k, level := b }
def learnF (s : SS) (c : List Int) : SS := { s with learned := s.learned ++ [c], cls := s.cls ++ [c] }
def nextF (T : List Int) (vars : Nat) : Nat → Option Nat
  | 0 => none
  | n + 1 => if ((vars - n : Nat) : Int) ∉ T ∧ -((vars - n : Nat) : Int) ∉ T then some (vars - n) else nextF T vars n
def decF (s : SS) (x : Int) : SS := { s with t := ⟨s.t.lits ++ [x], s.t.why ++ [-1]⟩, levels := s.levels ++ [s.level + 1], level := s.level + 1 }
inductive Ans where
  | yes (T : List Int) (used : Nat)
  | no (steps : List (List Int)) (used : Nat)
  | hungry (used : Nat)
def doF (vars : Nat) (ph : Bool) (fuel : Nat) : Nat → SS → Nat → Ans
  | 0, _, used => .hungry used
  | n + 1, s, used =>
    let r := propF vars s
    if r.2 ≠ -1 then
      if used = fuel then .hungry used
      else if s.level = 0 then .no (s.learned ++ [[]]) (used + 1)
      else let a := anF r.1 r.2.toNat
        doF vars ph fuel n (backF (learnF r.1 a.1) a.2) (used + 1)
    else match nextF r.1.t.lits vars vars with
      | none => .yes r.1.t.lits used
      | some v => doF vars ph fuel n (decF r.1 (if ph then (v : Int) else -(v : Int))) used

/-- What holds of the search. -/
structure InvT (vars : Nat) (s : SS) : Prop where
  ok : ClsOK vars s.cls
  good : GoodT vars s.t.lits
  why : WhyT s.cls s.t
  len : s.levels.length = s.t.lits.length
  mono : ∀ (i j a b : Nat), i ≤ j → s.levels[i]? = some a → s.levels[j]? = some b → a ≤ b
  top : ∀ a ∈ s.levels, a ≤ s.level
  dec : ∀ j : Nat, s.t.why[j]? = some (-1) → ∃ b : Nat, s.levels[j]? = some b ∧ 1 ≤ b ∧ (∀ (i a : Nat), i < j → s.levels[i]? = some a → a < b) ∧ ClosedT s.cls (s.t.lits.take j)
  all : ∀ k : Nat, 1 ≤ k → k ≤ s.level → ∃ j : Nat, s.t.why[j]? = some (-1) ∧ s.levels[j]? = some k
theorem idx_at {l : List Int} {x : Int} (h : x ∈ l) : l[l.idxOf x]? = some x := by
  have h1 : l.idxOf x < l.length := List.idxOf_lt_length_of_mem h
  rw [List.getElem?_eq_getElem h1, List.getElem_idxOf h1]
theorem GoodT.inj {vars : Nat} {T : List Int} (h : GoodT vars T) {i j : Nat} {a b : Int} (ha : T[i]? = some a) (hb : T[j]? = some b) (hab : a.natAbs = b.natAbs) : i = j := by
  have h1 := h.1
  have hi := (List.getElem?_eq_some_iff.1 ha).1
  have hj := (List.getElem?_eq_some_iff.1 hb).1
  refine (List.getElem?_inj (l := T.map Int.natAbs) (by simpa using hi) h1).1 ?_
  rw [List.getElem?_map, List.getElem?_map, ha, hb, Option.map_some, Option.map_some, hab]
theorem GoodT.cons {vars : Nat} {T : List Int} (h : GoodT vars T) {a : Int} (h1 : a ∈ T) (h2 : -a ∈ T) : False := by
  obtain ⟨i, hi⟩ := List.getElem?_of_mem h1
  obtain ⟨j, hj⟩ := List.getElem?_of_mem h2
  have := h.inj hi hj (by omega)
  subst this
  rw [hi] at hj
  have h0 := (h.2 a h1).1
  injection hj with hj
  omega
theorem mem_take_at {vars : Nat} {T : List Int} (hg : GoodT vars T) {x : Int} (hx : x ∈ T) (j : Nat) : x ∈ T.take j ↔ T.idxOf x < j := by
  constructor
  · intro h
    obtain ⟨i, hi⟩ := List.getElem?_of_mem h
    rw [List.getElem?_take] at hi
    split at hi
    · rename_i hij
      have := hg.inj hi (idx_at hx) rfl
      omega
    · cases hi
  · intro h
    apply List.mem_of_getElem? (i := T.idxOf x)
    rw [List.getElem?_take, if_pos h]
    exact idx_at hx
theorem InvT.lv {vars : Nat} {s : SS} (h : InvT vars s) {l : Int} (hl : -l ∈ s.t.lits) : s.levels[atF s l]? = some (lvF s l) := by
  have h1 : s.t.lits.idxOf (-l) < s.levels.length := by rw [h.len]; exact List.idxOf_lt_length_of_mem hl
  unfold lvF atF
  rw [List.getD_eq_getElem?_getD, List.getElem?_eq_getElem h1]; rfl
theorem nodup_of_map {α β : Type} {f : α → β} {l : List α} (h : (l.map f).Nodup) : l.Nodup := by
  unfold List.Nodup at h ⊢
  rw [List.pairwise_map] at h
  exact h.imp fun q (e : _ = _) => q (congrArg f e)
/-- Literals of level 0 are on each closed trail. -/
theorem InvT.zero {vars : Nat} {s : SS} (h : InvT vars s) {T : List Int} (hT : ClosedT s.cls T) : ∀ i : Nat, s.levels[i]? = some 0 → ∀ l : Int, s.t.lits[i]? = some l → l ∈ T := by
  intro i
  induction i using Nat.strongRecOn with
  | ind i ih =>
    intro hi l hl
    obtain ⟨y, hy, hq⟩ := h.why.2 i l hl
    rcases hq with rfl | ⟨k, rfl, c, hc, hlc, ha⟩
    · obtain ⟨b, hb, hb1, _⟩ := h.dec i hy
      rw [hi] at hb; cases hb; omega
    · have hcm := List.mem_of_getElem? hc
      refine closed_mem hT hcm (nodup_of_map (h.ok c hcm).1) hlc ((h.ok c hcm).2 l hlc).1 fun a ham => (ha a ham).imp_right fun q => ?_
      obtain ⟨j, hj⟩ := List.getElem?_of_mem q
      rw [List.getElem?_take] at hj
      split at hj
      · rename_i hji
        have hjl : j < s.levels.length := by rw [h.len]; exact (List.getElem?_eq_some_iff.1 hj).1
        have e := List.getElem?_eq_getElem hjl
        have := h.mono j i _ _ (by omega) e hi
        exact ih j hji (by rw [e, Nat.le_zero.1 this]) _ hj
      · cases hj
theorem addF_mem {x : Int} {r c : List Int} {a : Int} : a ∈ addF x r c ↔ a ∈ c ∨ a ∈ r ∧ a ≠ x := by
  induction r generalizing c with
  | nil => simp [addF]
  | cons l r ih =>
    unfold addF
    rw [ih]
    split
    · rename_i h
      simp only [List.mem_append, List.mem_cons, List.not_mem_nil, or_false]
      constructor
      · rintro ((q | rfl) | q)
        · exact .inl q
        · exact .inr ⟨.inl rfl, h.1⟩
        · exact .inr ⟨.inr q.1, q.2⟩
      · rintro (q | ⟨rfl | q, w⟩)
        · exact .inl (.inl q)
        · exact .inl (.inr rfl)
        · exact .inr ⟨q, w⟩
    · rename_i h
      simp only [List.mem_cons]
      constructor
      · rintro (q | q)
        · exact .inl q
        · exact .inr ⟨.inr q.1, q.2⟩
      · rintro (q | ⟨rfl | q, w⟩)
        · exact .inl q
        · exact .inl (Classical.byContradiction fun k => h ⟨w, k⟩)
        · exact .inr ⟨q, w⟩
theorem addF_nodup {x : Int} {r c : List Int} (h : c.Nodup) : (addF x r c).Nodup := by
  induction r generalizing c with
  | nil => exact h
  | cons l r ih =>
    unfold addF
    apply ih
    split
    · rename_i hl
      rw [List.nodup_append]
      exact ⟨h, by simp, fun a ha b hb => by simp at hb; subst hb; rintro rfl; exact hl.2 ha⟩
    · exact h
/-- How many stand at the level; the latest of them. -/
theorem lateF_told {s : SS} (c : List Int) : ∀ (la : Int) (n : Nat), (lateF s c la n).2 = n + (c.filter fun l => lvF s l = s.level).length ∧ ((lateF s c la n).1 = la ∨ (lateF s c la n).1 ∈ c ∧ lvF s (lateF s c la n).1 = s.level) ∧ (la ≠ 0 → (∀ l ∈ c, l ≠ 0) → (lateF s c la n).1 ≠ 0 ∧ atF s la ≤ atF s (lateF s c la n).1) ∧ ((∀ l ∈ c, l ≠ 0) → ∀ l ∈ c, lvF s l = s.level → (lateF s c la n).1 ≠ 0 ∧ atF s l ≤ atF s (lateF s c la n).1) := by
  induction c with
  | nil => intro la n; simp [lateF]
  | cons l c ih =>
    intro la n
    unfold lateF
    by_cases h : lvF s l = s.level
    · rw [if_pos h, List.filter_cons_of_pos (by simpa using h)]
      obtain ⟨h1, h2, h3, h4⟩ := ih (if la = 0 ∨ atF s la < atF s l then l else la) (n + 1)
      refine ⟨by rw [h1, List.length_cons]; omega, ?_, fun k hk => ?_, fun hk x hx hxl => ?_⟩
      · rcases h2 with e | e
        · rw [e]
          split
          · exact .inr ⟨List.mem_cons_self .., h⟩
          · exact .inl rfl
        · exact .inr ⟨List.mem_cons_of_mem _ e.1, e.2⟩
      · have hl0 := hk l (List.mem_cons_self ..)
        obtain ⟨q1, q2⟩ := h3 (by split; exact hl0; exact k) fun x hx => hk x (List.mem_cons_of_mem _ hx)
        refine ⟨q1, Nat.le_trans ?_ q2⟩
        split
        · rename_i w; rcases w with w | w; exact absurd w k; omega
        · omega
      · have hl0 := hk l (List.mem_cons_self ..)
        rcases List.mem_cons.1 hx with rfl | hx
        · have hne : (if la = 0 ∨ atF s la < atF s x then x else la) ≠ 0 := by
            split
            · exact hl0
            · rename_i w; exact fun e => w (.inl e)
          obtain ⟨q1, q2⟩ := h3 hne fun y hy => hk y (List.mem_cons_of_mem _ hy)
          refine ⟨q1, Nat.le_trans ?_ q2⟩
          split
          · exact Nat.le_refl _
          · rename_i w; exact Nat.not_lt.1 fun e => w (.inr e)
        · exact h4 (fun y hy => hk y (List.mem_cons_of_mem _ hy)) x hx hxl
    · rw [if_neg h, List.filter_cons_of_neg (by simpa using h)]
      obtain ⟨h1, h2, h3, h4⟩ := ih la n
      refine ⟨h1, h2.imp_right fun q => ⟨List.mem_cons_of_mem _ q.1, q.2⟩, fun k hk => h3 k fun x hx => hk x (List.mem_cons_of_mem _ hx), fun hk x hx hxl => ?_⟩
      rcases List.mem_cons.1 hx with rfl | hx
      · exact absurd hxl h
      · exact h4 (fun y hy => hk y (List.mem_cons_of_mem _ hy)) x hx hxl
/-- What holds of the clause that is resolved. -/
structure CI (s : SS) (c : List Int) : Prop where
  no : c.Nodup
  neg : ∀ l ∈ c, -l ∈ s.t.lits
  rup : Rup s.cls c
  one : ∃ l ∈ c, lvF s l = s.level
end Cd
namespace Cd
theorem CI.nz {vars : Nat} {s : SS} (h : InvT vars s) {c : List Int} (k : CI s c) : ∀ l ∈ c, l ≠ 0 := fun l hl => by
  have := (h.good.2 _ (k.neg l hl)).1
  omega
theorem at_lt {s : SS} {l : Int} (hl : -l ∈ s.t.lits) : atF s l < s.t.lits.length := List.idxOf_lt_length_of_mem hl
theorem at_inj {vars : Nat} {s : SS} (h : InvT vars s) {a b : Int} (ha : -a ∈ s.t.lits) (hb : -b ∈ s.t.lits) (e : atF s a = atF s b) : a = b := by
  have h1 := idx_at ha
  have h2 := idx_at hb
  unfold atF at e
  rw [e] at h1
  rw [h1] at h2
  injection h2 with h2
  omega
/-- Where two stand at the level, the later one has a reason. -/
theorem why_of {vars : Nat} {s : SS} (h : InvT vars s) {a b : Int} (ha : -a ∈ s.t.lits) (hb : -b ∈ s.t.lits) (hab : atF s b < atF s a) (e : lvF s b = lvF s a) : ∃ k : Nat, s.t.why[atF s a]? = some (k : Int) ∧ ∃ c, s.cls[k]? = some c ∧ -a ∈ c ∧ ∀ x ∈ c, x = -a ∨ -x ∈ s.t.lits.take (atF s a) := by
  obtain ⟨y, hy, hq⟩ := h.why.2 _ _ (idx_at ha)
  rcases hq with rfl | ⟨k, rfl, c, hc, h1, h2⟩
  · obtain ⟨z, hz, _, hlt, _⟩ := h.dec _ hy
    have h3 := h.lv ha
    have h4 := h.lv hb
    unfold atF at h3
    rw [h3] at hz
    cases hz
    have := hlt _ _ hab h4
    unfold lvF atF at e this
    omega
  · exact ⟨k, hy, c, hc, h1, h2⟩
structure ResQ (s : SS) (c d : List Int) : Prop where
  ci : CI s d
  cnt : (d.filter fun l => lvF s l = s.level).length < 2
theorem filter_two {α : Type} {p : α → Bool} {c : List α} (hn : c.Nodup) (h : ¬ (c.filter p).length < 2) (x : α) : ∃ b ∈ c, p b = true ∧ b ≠ x := by
  rcases hc : c.filter p with _ | ⟨a, _ | ⟨b, l⟩⟩
  · rw [hc] at h; simp at h
  · rw [hc] at h; simp at h
  · have hm : (c.filter p).Nodup := hn.filter _
    rw [hc] at hm
    have hab : a ≠ b := by
      rw [List.nodup_cons] at hm
      rintro rfl
      exact hm.1 (List.mem_cons_self ..)
    have h1 := List.mem_filter.1 (hc ▸ List.mem_cons_self .. : a ∈ c.filter p)
    have h2 := List.mem_filter.1 (hc ▸ List.mem_cons_of_mem _ (List.mem_cons_self ..) : b ∈ c.filter p)
    by_cases e : a = x
    · exact ⟨b, h2.1, h2.2, fun q => hab (e.trans q.symm)⟩
    · exact ⟨a, h1.1, h1.2, e⟩
theorem one_level {vars : Nat} {s : SS} (h : InvT vars s) {l : Int} (hl : -l ∈ s.t.lits) : lvF s l ≤ s.level := h.top _ (List.mem_of_getElem? (h.lv hl))
theorem res_step {vars : Nat} {s : SS} (h : InvT vars s) {c : List Int} (k : CI s c) (hc : ¬ (lateF s c 0 0).2 < 2) :
    let la := (lateF s c 0 0).1
    la ∈ c ∧ (∀ l ∈ c, lvF s l = s.level → atF s l ≤ atF s la) ∧ lvF s la = s.level ∧ (∃ r : Nat, s.t.why.getD (atF s la) 0 = r ∧ ∃ d, s.cls.getD r [] = d ∧ r < s.cls.length ∧ atF s la < s.t.why.length ∧ (∀ x ∈ d, x = -la ∨ -x ∈ s.t.lits.take (atF s la))) ∧
    CI s (addF (-la) (s.cls.getD (s.t.why.getD (atF s la) 0).toNat []) (c.filter (· ≠ la))) := by
  intro la
  obtain ⟨h1, h2, _, h4⟩ := lateF_told (s := s) c 0 0
  rw [Nat.zero_add] at h1
  rw [h1] at hc
  have nz := k.nz h
  obtain ⟨u, hu, hul⟩ := k.one
  have hla0 : la ≠ 0 := (h4 nz u hu hul).1
  have hla : la ∈ c ∧ lvF s la = s.level := h2.resolve_left hla0
  have hmax : ∀ l ∈ c, lvF s l = s.level → atF s l ≤ atF s la := fun l hl e => (h4 nz l hl e).2
  obtain ⟨b, hb, hbl, hbn⟩ := filter_two k.no hc la
  have hbl : lvF s b = s.level := by simpa using hbl
  have hlt : atF s b < atF s la := Nat.lt_of_le_of_ne (hmax b hb hbl) fun e => hbn (at_inj h (k.neg b hb) (k.neg la hla.1) e)
  obtain ⟨r, hw, d, hd, hld, hxd⟩ := why_of h (k.neg la hla.1) (k.neg b hb) hlt (hbl.trans hla.2.symm)
  have ew : s.t.why.getD (atF s la) 0 = (r : Int) := by rw [List.getD_eq_getElem?_getD, hw]; rfl
  obtain ⟨ed, hdm⟩ := mem_getD hd
  refine ⟨hla.1, hmax, hla.2, ⟨r, ew, d, ed, (List.getElem?_eq_some_iff.1 hd).1, (List.getElem?_eq_some_iff.1 hw).1, hxd⟩, ?_⟩
  rw [ew]
  show CI s (addF (-la) (s.cls.getD r []) (c.filter (· ≠ la)))
  rw [ed]
  refine ⟨addF_nodup (k.no.filter _), fun l hl => ?_, fun T hT hf => ?_, ⟨b, ?_, hbl⟩⟩
  · rcases addF_mem.1 hl with hl | ⟨hl, hn⟩
    · exact k.neg l (List.mem_filter.1 hl).1
    · exact List.mem_of_mem_take ((hxd l hl).resolve_left hn)
  · have hmem : -la ∈ T := closed_mem hT hdm (nodup_of_map (h.ok d hdm).1) hld (by omega) fun x hx => by
      by_cases e : x = -la
      · exact .inl e
      · exact .inr (hf x (addF_mem.2 (.inr ⟨hx, e⟩)))
    exact k.rup T hT fun l hl => by
      by_cases e : l = la
      · rw [e]; exact hmem
      · exact hf l (addF_mem.2 (.inl (List.mem_filter.2 ⟨hl, by simpa using e⟩)))
  · exact addF_mem.2 (.inl (List.mem_filter.2 ⟨hb, by simpa using hbn⟩))
/-- The resolutions end with one literal of the level. -/
theorem res_told {vars : Nat} {s : SS} (h : InvT vars s) : ∀ (n : Nat) (c : List Int), CI s c → (∀ l ∈ c, lvF s l = s.level → atF s l < n) → ResQ s c (resF s n c) := by
  intro n
  induction n with
  | zero =>
    intro c k hn
    obtain ⟨u, hu, hul⟩ := k.one
    exact absurd (hn u hu hul) (Nat.not_lt_zero _)
  | succ n ih =>
    intro c k hn
    unfold resF
    by_cases hc : (lateF s c 0 0).2 < 2
    · simp only [if_pos hc]
      refine ⟨k, ?_⟩
      have := (lateF_told (s := s) c 0 0).1
      omega
    · simp only [if_neg hc]
      obtain ⟨h1, h2, h3, ⟨r, ew, d, ed, _, _, hx⟩, h5⟩ := res_step h k hc
      have := ih _ h5 fun l hl hll => by
        have hla := hn _ h1 h3
        have hlt : atF s l < atF s (lateF s c 0 0).1 := by
          rcases addF_mem.1 hl with hl | ⟨hl, hne⟩
          · obtain ⟨hl, he⟩ := List.mem_filter.1 hl
            exact Nat.lt_of_le_of_ne (h2 l hl hll) fun e => by simp at he; exact he (at_inj h (k.neg l hl) (k.neg _ h1) e)
          · rw [ew] at hl
            rw [Int.toNat_natCast, ed] at hl
            have q := (hx l hl).resolve_left hne
            exact (mem_take_at h.good (List.mem_of_mem_take q) _).1 q
        omega
      exact ⟨this.ci, this.cnt⟩
theorem topF_told {s : SS} (c : List Int) : ∀ b : Nat, b ≤ topF s c b ∧ (topF s c b = b ∨ ∃ l ∈ c, lvF s l = topF s c b ∧ lvF s l < s.level) ∧ ∀ l ∈ c, lvF s l < s.level → lvF s l ≤ topF s c b := by
  induction c with
  | nil => intro b; simp [topF]
  | cons l c ih =>
    intro b
    unfold topF
    obtain ⟨h1, h2, h3⟩ := ih (if lvF s l < s.level then max b (lvF s l) else b)
    refine ⟨Nat.le_trans (by split <;> omega) h1, ?_, fun x hx hxl => ?_⟩
    · rcases h2 with e | ⟨x, hx, q⟩
      · rw [e]
        split
        · rename_i w
          rcases Nat.le_total b (lvF s l) with q | q
          · exact .inr ⟨l, List.mem_cons_self .., by omega, w⟩
          · exact .inl (by omega)
        · exact .inl rfl
      · exact .inr ⟨x, List.mem_cons_of_mem _ hx, q⟩
    · rcases List.mem_cons.1 hx with rfl | hx
      · rw [if_pos hxl] at h1 ⊢
        omega
      · exact h3 x hx hxl
/-- What is learned. -/
structure LearnT (vars : Nat) (s : SS) (c : List Int) (b : Nat) : Prop where
  no : c.Nodup
  neg : ∀ l ∈ c, -l ∈ s.t.lits
  rup : Rup s.cls c
  uip : ∃ u ∈ c, lvF s u = s.level ∧ ∀ l ∈ c, l = u ∨ lvF s l ≤ b
  lt : b < s.level
  top : b = 0 ∨ ∃ l ∈ c, lvF s l = b
  new : ∀ d ∈ s.cls, ¬ ∀ l, l ∈ d ↔ l ∈ c
theorem one_at {α : Type} {p : α → Bool} {c : List α} (hn : c.Nodup) (h : (c.filter p).length < 2) {u l : α} (hu : u ∈ c) (pu : p u = true) (hl : l ∈ c) (pl : p l = true) : l = u := by
  have h1 := List.mem_filter.2 ⟨hu, pu⟩
  have h2 := List.mem_filter.2 ⟨hl, pl⟩
  rcases hc : c.filter p with _ | ⟨a, _ | ⟨b, m⟩⟩
  · rw [hc] at h1; cases h1
  · rw [hc] at h1 h2
    rw [List.mem_singleton] at h1 h2
    rw [h1, h2]
  · rw [hc] at h; simp at h; omega
theorem an_told {vars : Nat} {s : SS} (h : InvT vars s) (hl : 1 ≤ s.level) {k : Nat} {c : List Int} (hk : s.cls[k]? = some c) (hc : ∀ l ∈ c, -l ∈ s.t.lits) : LearnT vars s (anF s k).1 (anF s k).2 := by
  obtain ⟨ec, hcm⟩ := mem_getD hk
  obtain ⟨j, hj, hjl⟩ := h.all s.level hl (Nat.le_refl _)
  obtain ⟨b0, hb0, _, hlt, hcl⟩ := h.dec j hj
  rw [hjl] at hb0
  cases hb0
  have hcn : c.Nodup := nodup_of_map (h.ok c hcm).1
  -- one of the clause is of the level
  have hone : ∃ l ∈ c, lvF s l = s.level := by
    apply Classical.byContradiction
    intro hno
    refine closed_not hcl hcm fun l hlc => (mem_take_at h.good (hc l hlc) j).2 ?_
    have h1 := one_level h (hc l hlc)
    have h2 : lvF s l ≠ s.level := fun e => hno ⟨l, hlc, e⟩
    apply Classical.byContradiction
    intro hge
    have := h.mono j _ _ _ (Nat.le_of_not_lt hge) hjl (h.lv (hc l hlc))
    omega
  have k0 : CI s c := ⟨hcn, hc, fun T hT hf => closed_not hT hcm hf, hone⟩
  have R := res_told h (s.t.lits.length + 1) c k0 fun l hl _ => Nat.lt_succ_of_lt (at_lt (hc l hl))
  unfold anF
  rw [ec]
  generalize resF s (s.t.lits.length + 1) c = d at R
  simp only
  obtain ⟨⟨r1, r2, r3, u, hu, hul⟩, r5⟩ := R
  obtain ⟨t1, t2, t3⟩ := topF_told (s := s) (d.filter (lvF s · ≠ 0)) 0
  have hsub : ∀ l ∈ d.filter (lvF s · ≠ 0), l ∈ d := fun l hl => (List.mem_filter.1 hl).1
  have huf : u ∈ d.filter (lvF s · ≠ 0) := List.mem_filter.2 ⟨hu, by simp; omega⟩
  have huni : ∀ l ∈ d, lvF s l = s.level → l = u := fun l hld e => one_at r1 r5 hu (by simpa using hul) hld (by simpa using e)
  have hbl : topF s (d.filter (lvF s · ≠ 0)) 0 < s.level := by
    rcases t2 with e | ⟨l, _, e, q⟩ <;> omega
  refine ⟨r1.filter _, fun l hl => r2 l (hsub l hl), fun T hT hf => ?_, ⟨u, huf, hul, fun l hl => ?_⟩, hbl, ?_, fun e he hsame => ?_⟩
  · refine r3 T hT fun l hl => ?_
    by_cases e : lvF s l = 0
    · have h1 := h.lv (r2 l hl)
      rw [e] at h1
      exact h.zero hT _ h1 _ (idx_at (r2 l hl))
    · exact hf l (List.mem_filter.2 ⟨hl, by simpa using e⟩)
  · by_cases e : lvF s l = s.level
    · exact .inl (huni l (hsub l hl) e)
    · have := one_level h (r2 l (hsub l hl))
      exact .inr (t3 l hl (by omega))
  · rcases t2 with e | ⟨l, hl, e, _⟩
    · exact .inl e
    · exact .inr ⟨l, hl, e⟩
  · -- it would have been unit ahead of the level
    have hun : -u ∉ s.t.lits.take j := by
      intro hm
      have h1 := (mem_take_at h.good (r2 u hu) j).1 hm
      have := hlt _ _ h1 (h.lv (r2 u hu))
      omega
    have hup : u ∉ s.t.lits.take j := fun hm => h.good.cons (List.mem_of_mem_take hm) (r2 u hu)
    have hu0 : u ≠ 0 := by have := (h.good.2 _ (r2 u hu)).1; omega
    have := hcl e he
    unfold stF at this
    rw [stG_one (x := u) (fun l hl => ?_) hup hun hu0 (nodup_of_map (h.ok e he).1) ((hsame u).2 huf)] at this
    · cases this; exact hu0 rfl
    · have hlf := (hsame l).1 hl
      by_cases el : lvF s l = s.level
      · exact .inl (huni l (hsub l hlf) el)
      · refine .inr ((mem_take_at h.good (r2 l (hsub l hlf)) j).2 ?_)
        have h1 := one_level h (r2 l (hsub l hlf))
        apply Classical.byContradiction
        intro hge
        have := h.mono j _ _ _ (Nat.le_of_not_lt hge) hjl (h.lv (r2 l (hsub l hlf)))
        omega
end Cd
namespace Cd
theorem getD_nat {l : List Int} {i : Nat} {y : Int} (h : l[i]? = some y) : i < l.length := (List.getElem?_eq_some_iff.1 h).1
theorem prop_told {vars : Nat} {s : SS} (h : InvT vars s) : InvT vars (propF vars s).1 ∧ (propF vars s).1.cls = s.cls ∧ (propF vars s).1.level = s.level ∧ (propF vars s).1.learned = s.learned ∧ s.t.lits.length ≤ (propF vars s).1.t.lits.length ∧ ((propF vars s).2 ≠ -1 → ∃ k : Nat, (propF vars s).2 = k ∧ ∃ c, s.cls[k]? = some c ∧ ∀ l ∈ c, -l ∈ (propF vars s).1.t.lits) ∧ ((propF vars s).2 = -1 → ClosedT s.cls (propF vars s).1.t.lits) := by
  have R := run_told h.ok (vars + 1) s.t h.good h.why (by omega)
  unfold propF
  generalize runF (vars + 1) s.cls s.t = r at R
  obtain ⟨L, W, e1, e2, e3, e4⟩ := R.pre
  have hl : r.1.lits.length - s.levels.length = L.length := by rw [e1, List.length_append, h.len]; omega
  simp only
  rw [hl]
  refine ⟨⟨h.ok, R.good, R.why, by rw [List.length_append, List.length_replicate, e1, List.length_append, h.len], ?_, ?_, ?_, ?_⟩, trivial, trivial, trivial, by rw [e1, List.length_append]; omega, R.bad, R.done⟩
  · intro i j a b hij ha hb
    rcases Nat.lt_or_ge i s.levels.length with hi | hi
    · rw [List.getElem?_append_left hi] at ha
      rcases Nat.lt_or_ge j s.levels.length with hj | hj
      · rw [List.getElem?_append_left hj] at hb
        exact h.mono i j a b hij ha hb
      · rw [List.getElem?_append_right hj] at hb
        obtain rfl := List.eq_of_mem_replicate (List.mem_of_getElem? hb)
        exact h.top a (List.mem_of_getElem? ha)
    · rw [List.getElem?_append_right hi] at ha
      rw [List.getElem?_append_right (Nat.le_trans hi hij)] at hb
      rw [List.eq_of_mem_replicate (List.mem_of_getElem? ha), List.eq_of_mem_replicate (List.mem_of_getElem? hb)]
      exact Nat.le_refl _
  · intro a ha
    rcases List.mem_append.1 ha with ha | ha
    · exact h.top a ha
    · exact Nat.le_of_eq (List.eq_of_mem_replicate ha)
  · intro j hj
    have hjl : j < s.t.why.length := by
      rw [e2] at hj
      apply Classical.byContradiction
      intro hge
      rw [List.getElem?_append_right (Nat.le_of_not_lt hge)] at hj
      exact e4 _ (List.mem_of_getElem? hj) rfl
    rw [e2, List.getElem?_append_left hjl] at hj
    obtain ⟨b, hb, hb1, hb2, hb3⟩ := h.dec j hj
    have hjv : j < s.levels.length := (List.getElem?_eq_some_iff.1 hb).1
    refine ⟨b, by rw [List.getElem?_append_left hjv]; exact hb, hb1, fun i a hi ha => ?_, ?_⟩
    · rw [List.getElem?_append_left (Nat.lt_trans hi hjv)] at ha
      exact hb2 i a hi ha
    · show ClosedT s.cls (r.1.lits.take j)
      rw [e1, List.take_append_of_le_length (by rw [← h.len]; exact Nat.le_of_lt hjv)]
      exact hb3
  · intro k h1 h2
    obtain ⟨j, hj, hk⟩ := h.all k h1 h2
    refine ⟨j, ?_, ?_⟩
    · show r.1.why[j]? = some (-1)
      rw [e2, List.getElem?_append_left (getD_nat hj)]
      exact hj
    · rw [List.getElem?_append_left (List.getElem?_eq_some_iff.1 hk).1]
      exact hk
theorem get_push {α : Type} {l : List α} {x y : α} {i : Nat} (h : (l ++ [x])[i]? = some y) : i < l.length ∧ l[i]? = some y ∨ i = l.length ∧ y = x := by
  rcases Nat.lt_or_ge i l.length with hi | hi
  · rw [List.getElem?_append_left hi] at h
    exact .inl ⟨hi, h⟩
  · rw [List.getElem?_append_right hi] at h
    rcases hk : i - l.length with _ | k
    · rw [hk] at h
      simp at h
      exact .inr ⟨by omega, h.symm⟩
    · rw [hk] at h
      simp at h
theorem dec_inv {vars : Nat} {s : SS} (h : InvT vars s) (hcl : ClosedT s.cls s.t.lits) {x : Int} (h0 : x ≠ 0) (hv : x.natAbs ≤ vars) (hx : x ∉ s.t.lits) (hx' : -x ∉ s.t.lits) : InvT vars (decF s x) := by
  unfold decF
  have hwl := h.why.1
  refine ⟨h.ok, h.good.push h0 hv hx hx', ⟨by simp [hwl], fun i l hl => ?_⟩, by simp [h.len], ?_, ?_, ?_, ?_⟩
  · rcases get_push hl with ⟨hi, hl⟩ | ⟨rfl, rfl⟩
    · obtain ⟨y, hy, hq⟩ := h.why.2 i l hl
      refine ⟨y, by rw [List.getElem?_append_left (getD_nat hy)]; exact hy, hq.imp_right ?_⟩
      rintro ⟨k, e, c, h1, h2, h3⟩
      exact ⟨k, e, c, h1, h2, fun a ha => (h3 a ha).imp_right fun q => by
        show -a ∈ (s.t.lits ++ [x]).take i
        rw [List.take_append_of_le_length (Nat.le_of_lt hi)]; exact q⟩
    · exact ⟨-1, by show (s.t.why ++ [(-1 : Int)])[s.t.lits.length]? = some (-1); rw [← hwl]; simp, .inl rfl⟩
  · intro i j a b hij ha hb
    rcases get_push ha with ⟨hi, ha⟩ | ⟨rfl, rfl⟩
    · rcases get_push hb with ⟨hj, hb⟩ | ⟨rfl, rfl⟩
      · exact h.mono i j a b hij ha hb
      · exact Nat.le_succ_of_le (h.top a (List.mem_of_getElem? ha))
    · rcases get_push hb with ⟨hj, hb⟩ | ⟨rfl, rfl⟩
      · omega
      · exact Nat.le_refl _
  · intro a ha
    rcases List.mem_append.1 ha with ha | ha
    · exact Nat.le_succ_of_le (h.top a ha)
    · simp at ha; exact Nat.le_of_eq ha
  · intro j hj
    rcases get_push hj with ⟨hjl, hj⟩ | ⟨rfl, _⟩
    · obtain ⟨b, hb, hb1, hb2, hb3⟩ := h.dec j hj
      have hjv : j < s.levels.length := (List.getElem?_eq_some_iff.1 hb).1
      refine ⟨b, by show (s.levels ++ [s.level + 1])[j]? = some b; rw [List.getElem?_append_left hjv]; exact hb, hb1, fun i a hi ha => ?_, ?_⟩
      · replace ha : (s.levels ++ [s.level + 1])[i]? = some a := ha
        rw [List.getElem?_append_left (Nat.lt_trans hi hjv)] at ha
        exact hb2 i a hi ha
      · show ClosedT s.cls ((s.t.lits ++ [x]).take j)
        rw [List.take_append_of_le_length (by rw [← h.len]; exact Nat.le_of_lt hjv)]
        exact hb3
    · refine ⟨s.level + 1, ?_, Nat.succ_le_succ (Nat.zero_le _), fun i a hi ha => ?_, ?_⟩
      · show (s.levels ++ [s.level + 1])[s.t.why.length]? = _
        rw [hwl, ← h.len]; simp
      · replace ha : (s.levels ++ [s.level + 1])[i]? = some a := ha
        rw [List.getElem?_append_left (by rw [h.len, ← hwl]; exact hi)] at ha
        exact Nat.lt_succ_of_le (h.top a (List.mem_of_getElem? ha))
      · show ClosedT s.cls ((s.t.lits ++ [x]).take s.t.why.length)
        rw [hwl, List.take_left']
        · exact hcl
        · rfl
  · intro k h1 h2
    replace h2 : k ≤ s.level + 1 := h2
    rcases Nat.lt_or_ge s.level k with hk | hk
    · obtain rfl : k = s.level + 1 := by omega
      refine ⟨s.t.why.length, by show (s.t.why ++ [(-1 : Int)])[s.t.why.length]? = _; simp, ?_⟩
      show (s.levels ++ [s.level + 1])[s.t.why.length]? = _
      rw [hwl, ← h.len]; simp
    · obtain ⟨j, hj, hjk⟩ := h.all k h1 hk
      refine ⟨j, by show (s.t.why ++ [(-1 : Int)])[j]? = _; rw [List.getElem?_append_left (getD_nat hj)]; exact hj, ?_⟩
      show (s.levels ++ [s.level + 1])[j]? = _
      rw [List.getElem?_append_left (List.getElem?_eq_some_iff.1 hjk).1]; exact hjk
theorem keep_le (l : List Nat) (b : Nat) : keepF l b ≤ l.length := (List.takeWhile_prefix (l := l) (· ≤ b)).length_le
theorem keep_at {l : List Nat} {b i a : Nat} (h : (l.take (keepF l b))[i]? = some a) : l[i]? = some a ∧ a ≤ b ∧ i < keepF l b := by
  have hi : i < keepF l b := by
    have := (List.getElem?_eq_some_iff.1 h).1
    rw [List.length_take] at this
    omega
  have h2 : l[i]? = some a := by rw [List.getElem?_take, if_pos hi] at h; exact h
  refine ⟨h2, ?_, hi⟩
  have e : l.take (keepF l b) = l.takeWhile (· ≤ b) := by
    unfold keepF
    have := List.takeWhile_prefix (l := l) (· ≤ b)
    exact (List.prefix_iff_eq_take.1 this).symm
  rw [e] at h
  have h3 := List.all_takeWhile (p := fun x => decide (x ≤ b)) (l := l)
  have := List.all_eq_true.1 h3 a (List.mem_of_getElem? h)
  simpa using this
theorem keep_of {l : List Nat} {b : Nat} : ∀ {j : Nat}, (∀ i, i ≤ j → ∃ a, l[i]? = some a ∧ a ≤ b) → j < keepF l b := by
  induction l with
  | nil => intro j h; obtain ⟨a, ha, _⟩ := h 0 (Nat.zero_le _); cases ha
  | cons x l ih =>
    intro j h
    obtain ⟨a, ha, hab⟩ := h 0 (Nat.zero_le _)
    simp at ha
    subst ha
    unfold keepF
    rw [List.takeWhile_cons_of_pos (by simpa using hab), List.length_cons]
    rcases j with _ | j
    · omega
    · have := ih (j := j) fun i hi => by
        obtain ⟨c, hc, hcb⟩ := h (i + 1) (by omega)
        exact ⟨c, by simpa using hc, hcb⟩
      unfold keepF at this
      omega
theorem neg_inj {vars : Nat} {T : List Int} (hg : GoodT vars T) {c : List Int} (hn : c.Nodup) (h : ∀ l ∈ c, -l ∈ T) : (c.map Int.natAbs).Nodup := by
  unfold List.Nodup at hn ⊢
  rw [List.pairwise_map]
  refine hn.imp_of_mem fun {a b} ha hb hab e => ?_
  have := hg.inj (idx_at (h a ha)) (idx_at (h b hb)) (by omega)
  have h1 := idx_at (h a ha)
  rw [this, idx_at (h b hb)] at h1
  injection h1 with h1
  omega
theorem back_inv {vars : Nat} {s : SS} (h : InvT vars s) {c : List Int} {b : Nat} (hL : LearnT vars s c b) : InvT vars (backF (learnF s c) b) := by
  unfold backF learnF
  simp only
  have hk := keep_le s.levels b
  have hkl : keepF s.levels b ≤ s.t.lits.length := by rw [← h.len]; exact hk
  have hkw : keepF s.levels b ≤ s.t.why.length := by rw [h.why.1]; exact hkl
  obtain ⟨u, hu, hul, hut⟩ := hL.uip
  have cnz : ∀ l ∈ c, l ≠ 0 := fun l hl => by have := (h.good.2 _ (hL.neg l hl)).1; omega
  refine ⟨?_, ⟨?_, fun l hl => h.good.2 l (List.mem_of_mem_take hl)⟩, ⟨?_, fun i l hl => ?_⟩, ?_, ?_, ?_, ?_, ?_⟩
  · intro d hd
    rcases List.mem_append.1 hd with hd | hd
    · exact h.ok d hd
    · rw [List.mem_singleton] at hd
      subst hd
      refine ⟨neg_inj h.good hL.no hL.neg, fun l hl => ?_⟩
      have := h.good.2 _ (hL.neg l hl)
      omega
  · show ((s.t.lits.take _).map Int.natAbs).Nodup
    rw [List.map_take]
    exact h.good.1.sublist (List.take_sublist ..)
  · simp [h.why.1]
  · replace hl : (s.t.lits.take (keepF s.levels b))[i]? = some l := hl
    rw [List.getElem?_take] at hl
    split at hl
    · rename_i hi
      obtain ⟨y, hy, hq⟩ := h.why.2 i l hl
      refine ⟨y, by show (s.t.why.take (keepF s.levels b))[i]? = some y; rw [List.getElem?_take, if_pos hi]; exact hy, hq.imp_right ?_⟩
      rintro ⟨k, e, d, h1, h2, h3⟩
      refine ⟨k, e, d, by rw [List.getElem?_append_left (List.getElem?_eq_some_iff.1 h1).1]; exact h1, h2, fun a ha => (h3 a ha).imp_right fun q => ?_⟩
      show -a ∈ (s.t.lits.take (keepF s.levels b)).take i
      rw [List.take_take, Nat.min_eq_left (Nat.le_of_lt hi)]
      exact q
    · cases hl
  · simp [h.len]
  · intro i j a b' hij ha hb
    exact h.mono i j a b' hij (keep_at ha).1 (keep_at hb).1
  · intro a ha
    obtain ⟨i, hi⟩ := List.getElem?_of_mem ha
    exact (keep_at hi).2.1
  · intro j hj
    replace hj : (s.t.why.take (keepF s.levels b))[j]? = some (-1) := hj
    rw [List.getElem?_take] at hj
    split at hj
    · rename_i hjk
      obtain ⟨e, he, he1, he2, he3⟩ := h.dec j hj
      have hek : (s.levels.take (keepF s.levels b))[j]? = some e := by rw [List.getElem?_take, if_pos hjk]; exact he
      have heb := (keep_at hek).2.1
      refine ⟨e, hek, he1, fun i a hi ha => he2 i a hi (keep_at ha).1, fun d hd => ?_⟩
      show stF ((s.t.lits.take (keepF s.levels b)).take j) d = _
      rw [List.take_take, Nat.min_eq_left (Nat.le_of_lt hjk)]
      rcases List.mem_append.1 hd with hd | hd
      · exact he3 d hd
      · rw [List.mem_singleton] at hd
        subst hd
        have hb1 : b ≠ 0 := by omega
        obtain ⟨t, ht, htb⟩ := hL.top.resolve_left hb1
        have key : ∀ x ∈ d, e ≤ lvF s x → -x ∉ s.t.lits.take j := fun x hx hxe hm => by
          have h1 := (mem_take_at h.good (hL.neg x hx) j).1 hm
          have := he2 _ _ h1 (h.lv (hL.neg x hx))
          omega
        have hlt := hL.lt
        exact stG_two cnz hu ht (by rintro rfl; omega) (key u hu (by omega)) (key t ht (by omega))
    · cases hj
  · intro k h1 h2
    replace h2 : k ≤ b := h2
    have hlt := hL.lt
    obtain ⟨j, hj, hjk⟩ := h.all k h1 (by omega)
    have hjl := (List.getElem?_eq_some_iff.1 hjk).1
    have hjb : j < keepF s.levels b := keep_of fun i hi => by
      have hil : i < s.levels.length := by omega
      refine ⟨_, List.getElem?_eq_getElem hil, ?_⟩
      have := h.mono i j _ _ hi (List.getElem?_eq_getElem hil) hjk
      omega
    refine ⟨j, by show (s.t.why.take _)[j]? = _; rw [List.getElem?_take, if_pos hjb]; exact hj, by show (s.levels.take _)[j]? = _; rw [List.getElem?_take, if_pos hjb]; exact hjk⟩
end Cd
namespace Cd
/-- A clause as a number: for each variable whether it stands there, and how. -/
def digC (c : List Int) (v : Nat) : Nat := if ((v : Nat) : Int) ∈ c then 1 else if -((v : Nat) : Int) ∈ c then 2 else 0
def codeC (c : List Int) : Nat → Nat
  | 0 => 0
  | v + 1 => codeC c v * 3 + digC c (v + 1)
theorem digC_lt (c : List Int) (v : Nat) : digC c v < 3 := by unfold digC; split <;> (try split) <;> omega
theorem codeC_lt (c : List Int) (v : Nat) : codeC c v < 3 ^ v := by
  induction v with
  | zero => simp [codeC]
  | succ v ih => have := digC_lt c (v + 1); unfold codeC; rw [Nat.pow_succ]; omega
theorem codeC_inj {c d : List Int} {n : Nat} (h : codeC c n = codeC d n) : ∀ v, 1 ≤ v → v ≤ n → digC c v = digC d v := by
  induction n with
  | zero => intro v h1 h2; omega
  | succ n ih =>
    unfold codeC at h
    have h1 := digC_lt c (n + 1)
    have h2 := digC_lt d (n + 1)
    intro v hv hn
    rcases Nat.lt_or_ge n v with q | q
    · obtain rfl : v = n + 1 := by omega
      omega
    · exact ih (by omega) v hv q
theorem same_of_code {vars : Nat} {c d : List Int} (hc : (c.map Int.natAbs).Nodup ∧ ∀ l ∈ c, l ≠ 0 ∧ l.natAbs ≤ vars) (hd : (d.map Int.natAbs).Nodup ∧ ∀ l ∈ d, l ≠ 0 ∧ l.natAbs ≤ vars) (h : codeC c vars = codeC d vars) : ∀ l, l ∈ c ↔ l ∈ d := by
  have key : ∀ c d : List Int, ((c.map Int.natAbs).Nodup ∧ ∀ l ∈ c, l ≠ 0 ∧ l.natAbs ≤ vars) → codeC c vars = codeC d vars → ∀ l, l ∈ c → l ∈ d := by
    intro c d hc h l hl
    have h1 := hc.2 l hl
    have hG : GoodT vars c := hc
    have := codeC_inj h l.natAbs (by omega) h1.2
    unfold digC at this
    rcases Int.natAbs_eq l with e | e
    · rw [← e, if_pos hl] at this
      split at this
      · assumption
      · split at this <;> omega
    · have e' : ((l.natAbs : Nat) : Int) = -l := by omega
      rw [e'] at this
      rw [if_neg (fun q => hG.cons hl q), Int.neg_neg, if_pos hl] at this
      split at this
      · omega
      · split at this
        · assumption
        · omega
  exact fun l => ⟨key c d hc h l, key d c hd h.symm l⟩
/-- The learned clauses of a search. -/
structure Lrn (vars : Nat) (base : List (List Int)) (s : SS) : Prop where
  cls : s.cls = base ++ s.learned
  rup : ∀ i c, s.learned[i]? = some c → Rup (base ++ s.learned.take i) c
  diff : (s.learned.map fun c => codeC c vars).Nodup
theorem Lrn.le {vars : Nat} {base : List (List Int)} {s : SS} (h : Lrn vars base s) : s.learned.length ≤ 3 ^ vars := by
  have := nodup_le (n := 3 ^ vars) (l := s.learned.map fun c => codeC c vars + 1) (by
    have := h.diff
    unfold List.Nodup at this ⊢
    rw [List.pairwise_map] at this ⊢
    exact this.imp fun q e => q (by omega)) fun x hx => by
      obtain ⟨c, _, rfl⟩ := List.mem_map.1 hx
      have := codeC_lt c vars
      omega
  simpa using this
theorem lrn_back {vars : Nat} {base : List (List Int)} {s : SS} (hI : InvT vars s) (h : Lrn vars base s) {c : List Int} {b : Nat} (hL : LearnT vars s c b) : Lrn vars base (backF (learnF s c) b) := by
  have hcok : (c.map Int.natAbs).Nodup ∧ ∀ l ∈ c, l ≠ 0 ∧ l.natAbs ≤ vars := ⟨neg_inj hI.good hL.no hL.neg, fun l hl => by
    have := hI.good.2 _ (hL.neg l hl)
    omega⟩
  refine ⟨?_, fun i d hd => ?_, ?_⟩
  · show s.cls ++ [c] = base ++ (s.learned ++ [c])
    rw [h.cls, List.append_assoc]
  · replace hd : (s.learned ++ [c])[i]? = some d := hd
    show Rup (base ++ (s.learned ++ [c]).take i) d
    rcases get_push hd with ⟨hi, hd⟩ | ⟨rfl, rfl⟩
    · rw [List.take_append_of_le_length (Nat.le_of_lt hi)]
      exact h.rup i d hd
    · rw [List.take_left' rfl, ← h.cls]
      exact hL.rup
  · show ((s.learned ++ [c]).map _).Nodup
    rw [List.map_append, List.nodup_append]
    refine ⟨h.diff, by simp, fun x hx y hy => ?_⟩
    obtain ⟨d, hd, rfl⟩ := List.mem_map.1 hx
    simp at hy
    subst hy
    intro e
    have hdm : d ∈ s.cls := by rw [h.cls]; exact List.mem_append.2 (.inr hd)
    exact hL.new d hdm (same_of_code (hI.ok d hdm) hcok e)
theorem nextF_told {T : List Int} {vars : Nat} : ∀ n, n ≤ vars → match nextF T vars n with
    | some v => vars - n < v ∧ v ≤ vars ∧ (v : Int) ∉ T ∧ -(v : Int) ∉ T
    | none => ∀ v : Nat, vars - n < v → v ≤ vars → (v : Int) ∈ T ∨ -(v : Int) ∈ T := by
  intro n
  induction n with
  | zero => intro _; unfold nextF; intro v h1 h2; omega
  | succ n ih =>
    intro hn
    unfold nextF
    by_cases h : ((vars - n : Nat) : Int) ∉ T ∧ -((vars - n : Nat) : Int) ∉ T
    · rw [if_pos h]
      exact ⟨by omega, by omega, h.1, h.2⟩
    · rw [if_neg h]
      have := ih (by omega)
      split at this
      · rename_i v _
        exact ⟨by omega, this.2⟩
      · intro v h1 h2
        rcases Nat.lt_or_ge (vars - n) v with q | q
        · exact this v q h2
        · obtain rfl : v = vars - n := by omega
          exact Classical.byContradiction fun k => h ⟨fun a => k (.inl a), fun a => k (.inr a)⟩
/-- What is told at the end. -/
def ToldT (vars : Nat) (base : List (List Int)) : Ans → Prop
  | .yes T used => GoodT vars T ∧ ClosedT base T ∧ (∀ v : Nat, 1 ≤ v → v ≤ vars → (v : Int) ∈ T ∨ -(v : Int) ∈ T) ∧ used ≤ 3 ^ vars
  | .no st used => used ≤ 3 ^ vars + 1 ∧ st.length ≤ 3 ^ vars + 1 ∧ (∃ L, st = L ++ [[]]) ∧ ClsOK vars st ∧ ∀ i c, st[i]? = some c → Rup (base ++ st.take i) c
  | .hungry _ => False
theorem rup_append {cls : List (List Int)} {c : List Int} {d : List (List Int)} (h : Rup cls c) : Rup (cls ++ d) c := fun T hT hf => h T (fun x hx => hT x (List.mem_append.2 (.inl hx))) hf
theorem closed_base {base L : List (List Int)} {T : List Int} (h : ClosedT (base ++ L) T) : ClosedT base T := fun c hc => h c (List.mem_append.2 (.inl hc))
theorem do_told {vars : Nat} {ph : Bool} {fuel : Nat} {base : List (List Int)} (hf : 3 ^ vars < fuel) : ∀ (n : Nat) (s : SS) (used : Nat), InvT vars s → Lrn vars base s → used = s.learned.length → (3 ^ vars + 1 - used) * (vars + 2) + (vars - s.t.lits.length) < n → ToldT vars base (doF vars ph fuel n s used) := by
  intro n
  induction n with
  | zero => intro s used _ _ _ h; omega
  | succ n ih =>
    intro s used hI hL hu hn
    have hle := hL.le
    obtain ⟨p1, p2, p3, p4, p5, p6, p7⟩ := prop_told hI
    unfold doF
    simp only
    have pL : Lrn vars base (propF vars s).1 := ⟨by rw [p2, p4]; exact hL.cls, by rw [p4]; exact hL.rup, by rw [p4]; exact hL.diff⟩
    by_cases hb : (propF vars s).2 ≠ -1
    · obtain ⟨k, hk, c, hc, hcf⟩ := p6 hb
      rw [if_pos hb, if_neg (by omega)]
      by_cases h0 : s.level = 0
      · rw [if_pos h0]
        have hrup : Rup (base ++ s.learned) [] := fun T hT _ => by
          rw [← hL.cls, ← p2] at hT
          refine closed_not hT (p2 ▸ List.mem_of_getElem? hc) fun l hl => ?_
          have h1 := p1.lv (hcf l hl)
          have h2 := one_level p1 (hcf l hl)
          rw [p3, h0] at h2
          rw [Nat.le_zero.1 h2] at h1
          exact p1.zero hT _ h1 _ (idx_at (hcf l hl))
        refine ⟨by omega, by simp; omega, ⟨_, rfl⟩, fun c hc => ?_, fun i c hc => ?_⟩
        · rcases List.mem_append.1 hc with hc | hc
          · exact hI.ok c (by rw [hL.cls]; exact List.mem_append.2 (.inr hc))
          · rw [List.mem_singleton] at hc; subst hc; simp
        · rcases get_push hc with ⟨hi, hc⟩ | ⟨rfl, rfl⟩
          · rw [List.take_append_of_le_length (Nat.le_of_lt hi)]; exact hL.rup i c hc
          · rw [List.take_left' rfl]; exact hrup
      · rw [if_neg h0, hk, Int.toNat_natCast]
        have hA := an_told p1 (by rw [p3]; omega) (k := k) (c := c) (by rw [p2]; exact hc) hcf
        refine ih _ _ (back_inv p1 hA) (lrn_back p1 pL hA) (by show used + 1 = ((propF vars s).1.learned ++ [_]).length; rw [p4]; simp [hu]) ?_
        have h1 : vars - (backF (learnF (propF vars s).1 (anF (propF vars s).1 k).1) (anF (propF vars s).1 k).2).t.lits.length ≤ vars := Nat.sub_le ..
        have h2 : (3 ^ vars + 1 - used) = (3 ^ vars + 1 - (used + 1)) + 1 := by omega
        rw [h2, Nat.add_mul] at hn
        omega
    · rw [if_neg hb]
      have hb' : (propF vars s).2 = -1 := Classical.byContradiction hb
      have hcl := p7 hb'
      have hx := nextF_told (T := (propF vars s).1.t.lits) (vars := vars) vars (Nat.le_refl _)
      split
      · rename_i hv
        rw [hv] at hx
        refine ⟨p1.good, ?_, fun v h1 h2 => hx v (by omega) h2, by omega⟩
        rw [hL.cls] at hcl
        exact closed_base hcl
      · rename_i v hv
        rw [hv] at hx
        obtain ⟨h1, h2, h3, h4⟩ := hx
        have hg := p1.good.le
        refine ih _ _ (dec_inv p1 (by rw [p2]; exact hcl) (x := if ph then (v : Int) else -(v : Int)) ?_ ?_ ?_ ?_) ⟨pL.cls, pL.rup, pL.diff⟩ (by show used = (propF vars s).1.learned.length; rw [p4]; exact hu) ?_
        · split <;> omega
        · split <;> omega
        · split <;> assumption
        · split
          · exact h4
          · rw [Int.neg_neg]; exact h3
        · have h5 := (p1.good.push (x := (v : Int)) (by omega) (by omega) h3 h4).le
          have : (decF (propF vars s).1 (if ph then (v : Int) else -(v : Int))).t.lits.length = (propF vars s).1.t.lits.length + 1 := by unfold decF; simp
          rw [this]
          rw [List.length_append, List.length_singleton] at h5
          omega
/-- What a satisfied clause list's assignment is: a closed trail. -/
theorem closed_of_true {cls : List (List Int)} {T : List Int} (h : ∀ c ∈ cls, (∃ l ∈ c, l ∈ T) ∧ ∀ l ∈ c, l ∈ T ∨ -l ∈ T) (hc : ∀ l, l ∈ T → -l ∈ T → False) : ClosedT cls T := fun c hcc => by
  obtain ⟨⟨x, hx, hT⟩, h2⟩ := h c hcc
  rcases stG_true 0 hx hT (fun l _ h3 h4 => hc l h4 h3) with e | ⟨a, ha, h3, h4⟩
  · exact e
  · exact ((h2 a ha).elim h4 h3).elim
/-- On a closed trail that has all variables each clause has a literal that holds. -/
theorem true_of_closed {cls : List (List Int)} {T c : List Int} (h : ClosedT cls T) (hc : c ∈ cls) (hall : ∀ l ∈ c, l ∈ T ∨ -l ∈ T) : ∃ l ∈ c, l ∈ T := by
  apply Classical.byContradiction
  intro hno
  exact closed_not h hc fun l hl => (hall l hl).resolve_left fun q => hno ⟨l, hl, q⟩
/-- A chain of refutations ends in a contradiction: no assignment makes all clauses true. -/
theorem chain_sound {base st : List (List Int)} {T : List Int} (hr : ∀ i c, st[i]? = some c → Rup (base ++ st.take i) c) (hT : ∀ c ∈ base, ∃ l ∈ c, l ∈ T) (hc : ∀ l, l ∈ T → -l ∈ T → False) (hall : ∀ c ∈ base ++ st, ∀ l ∈ c, l ∈ T ∨ -l ∈ T) : ∀ c ∈ st, ∃ l ∈ c, l ∈ T := by
  have key : ∀ (n i : Nat), i < n → ∀ c, st[i]? = some c → ∃ l ∈ c, l ∈ T := by
    intro n
    induction n with
    | zero => intro i hi; omega
    | succ n ih =>
      intro i hi c hic
      apply Classical.byContradiction
      intro hno
      refine hr i c hic T (closed_of_true (fun d hd => ⟨?_, hall d ?_⟩) hc) fun l hl => ?_
      · rcases List.mem_append.1 hd with hd | hd
        · exact hT d hd
        · obtain ⟨j, hj⟩ := List.getElem?_of_mem hd
          rw [List.getElem?_take] at hj
          split at hj
          · exact ih j (by omega) d hj
          · cases hj
      · rcases List.mem_append.1 hd with hd | hd
        · exact List.mem_append.2 (.inl hd)
        · exact List.mem_append.2 (.inr (List.mem_of_mem_take hd))
      · exact (hall c (List.mem_append.2 (.inr (List.mem_of_getElem? hic))) l hl).resolve_left fun q => hno ⟨l, hl, q⟩
  intro c hc'
  obtain ⟨i, hi⟩ := List.getElem?_of_mem hc'
  exact key (i + 1) i (Nat.lt_succ_self _) c hi
end Cd
end Go.Proofs.YtnndmdfjdodiiaaGreat

namespace Go.Proofs.YtnndmdfjdodiiaaGreat
set_option linter.unusedVariables false
set_option linter.unusedSimpArgs false

namespace Cl
/-! Package close: classes of terms. -/
structure Tm where
  head : Int
  kids : List Int
def clAt (c : List Int) (a : Int) : Int := c.getD a.toNat 0
def joinF (c : List Int) (a b : Int) : List Int := c.map fun z => if z = max (clAt c a) (clAt c b) then min (clAt c a) (clAt c b) else z
def kidsB (c : List Int) (l m : List Int) : Bool := decide (l.map (clAt c) = m.map (clAt c))
def inB (c : List Int) (t u : Tm) (i k : Nat) : Bool := decide (clAt c i ≠ clAt c k) && (decide (t.head = u.head) && kidsB c t.kids u.kids)
/-- The terms ahead of term i. -/
def inL (t : Tm) (i : Nat) : List Tm → Nat → List Int × Bool → List Int × Bool
  | [], _, r => r
  | u :: us, k, r => inL t i us (k + 1) (if inB r.1 t u i k then (joinF r.1 i k, true) else r)
def outL (terms : List Tm) : List Tm → Nat → List Int × Bool → List Int × Bool
  | [], _, r => r
  | t :: ts, i, r => outL terms ts (i + 1) (inL t i (terms.take i) 0 r)
def loopF (terms : List Tm) : Nat → List Int → List Int
  | 0, c => c
  | n + 1, c => if (outL terms terms 0 (c, false)).2 then loopF terms n (outL terms terms 0 (c, false)).1 else (outL terms terms 0 (c, false)).1
def startF (n : Nat) : List Int := (List.range n).map fun i : Nat => (i : Int)
def joinAll (c : List Int) (pairs : List (Int × Int)) : List Int := pairs.foldl (fun c p => joinF c p.1 p.2) c
def classF (terms : List Tm) (pairs : List (Int × Int)) : List Int := loopF terms (terms.length * terms.length + 1) (joinAll (startF terms.length) pairs)
def relB (terms : List Tm) (pairs : List (Int × Int)) (a b : Int) : Bool := decide (clAt (classF terms pairs) a = clAt (classF terms pairs) b)
def pickP (same : List (Int × Int)) (l : List Nat) : List (Int × Int) := l.map fun k => same.getD k (0, 0)
def whyF (terms : List Tm) (same : List (Int × Int)) (a b : Int) : Nat → List Nat → List Nat
  | 0, left => left
  | i + 1, left => whyF terms same a b i (if relB terms (pickP same (left.filter (· ≠ i))) a b then left.filter (· ≠ i) else left)
/-- What a class list is. -/
structure ClOK (n : Nat) (c : List Int) : Prop where
  len : c.length = n
  rg : ∀ z ∈ c, 0 ≤ z ∧ z < (n : Int)
theorem ClOK.at {n : Nat} {c : List Int} (h : ClOK n c) {a : Int} (h0 : 0 ≤ a) (h1 : a < (n : Int)) : 0 ≤ clAt c a ∧ clAt c a < (n : Int) ∧ c[a.toNat]? = some (clAt c a) := by
  have hl : a.toNat < c.length := by rw [h.len]; omega
  have e : clAt c a = c[a.toNat] := by unfold clAt; rw [List.getD_eq_getElem?_getD, List.getElem?_eq_getElem hl]; rfl
  have := h.rg _ (List.getElem_mem hl)
  rw [e]
  exact ⟨this.1, this.2, List.getElem?_eq_getElem hl⟩
theorem join_ok {n : Nat} {c : List Int} (h : ClOK n c) {a b : Int} (ha : 0 ≤ a ∧ a < (n : Int)) (hb : 0 ≤ b ∧ b < (n : Int)) : ClOK n (joinF c a b) := by
  have h1 := h.at ha.1 ha.2
  have h2 := h.at hb.1 hb.2
  refine ⟨by unfold joinF; rw [List.length_map, h.len], fun z hz => ?_⟩
  unfold joinF at hz
  obtain ⟨y, hy, rfl⟩ := List.mem_map.1 hz
  have := h.rg y hy
  split <;> omega
def sumZ : List Int → Int
  | [] => 0
  | z :: l => z + sumZ l
theorem sumZ_le {l : List Int} {f : Int → Int} (hf : ∀ z ∈ l, f z ≤ z) : sumZ (l.map f) ≤ sumZ l := by
  induction l with
  | nil => exact Int.le_refl _
  | cons z l ih =>
    have h1 := hf z (List.mem_cons_self ..)
    have h2 := ih fun y hy => hf y (List.mem_cons_of_mem _ hy)
    simp only [List.map_cons, sumZ]
    omega
theorem sumZ_lt {l : List Int} {f : Int → Int} (hf : ∀ z ∈ l, f z ≤ z) {x : Int} (hx : x ∈ l) (hlt : f x < x) : sumZ (l.map f) < sumZ l := by
  induction l with
  | nil => cases hx
  | cons z l ih =>
    have h1 := hf z (List.mem_cons_self ..)
    have h2 := sumZ_le fun y hy => hf y (List.mem_cons_of_mem _ hy)
    simp only [List.map_cons, sumZ]
    rcases List.mem_cons.1 hx with rfl | hx
    · omega
    · have := ih (fun y hy => hf y (List.mem_cons_of_mem _ hy)) hx
      omega
theorem sumZ_rg {n : Nat} {l : List Int} (h : ∀ z ∈ l, 0 ≤ z ∧ z < (n : Int)) : 0 ≤ sumZ l ∧ sumZ l ≤ (l.length * n : Nat) := by
  induction l with
  | nil => simp [sumZ]
  | cons z l ih =>
    have h1 := h z (List.mem_cons_self ..)
    have h2 := ih fun y hy => h y (List.mem_cons_of_mem _ hy)
    simp only [sumZ, List.length_cons]
    rw [Nat.succ_mul]
    push_cast at *
    omega
theorem join_sum {n : Nat} {c : List Int} (h : ClOK n c) {a b : Int} (ha : 0 ≤ a ∧ a < (n : Int)) (hb : 0 ≤ b ∧ b < (n : Int)) : sumZ (joinF c a b) ≤ sumZ c ∧ (clAt c a ≠ clAt c b → sumZ (joinF c a b) < sumZ c) := by
  have h1 := h.at ha.1 ha.2
  have h2 := h.at hb.1 hb.2
  have hf : ∀ z ∈ c, (fun z => if z = max (clAt c a) (clAt c b) then min (clAt c a) (clAt c b) else z) z ≤ z := fun z _ => by
    show (if z = max (clAt c a) (clAt c b) then min (clAt c a) (clAt c b) else z) ≤ z
    split <;> omega
  refine ⟨sumZ_le hf, fun hne => ?_⟩
  rcases Int.lt_or_lt_of_ne hne with q | q
  · exact sumZ_lt hf (List.mem_of_getElem? h2.2.2) (by show (if clAt c b = max (clAt c a) (clAt c b) then min (clAt c a) (clAt c b) else clAt c b) < clAt c b; rw [if_pos (by omega)]; omega)
  · exact sumZ_lt hf (List.mem_of_getElem? h1.2.2) (by show (if clAt c a = max (clAt c a) (clAt c b) then min (clAt c a) (clAt c b) else clAt c a) < clAt c a; rw [if_pos (by omega)]; omega)
/-- What a pass over the terms keeps. -/
structure PassQ (n : Nat) (r r' : List Int × Bool) : Prop where
  ok : ClOK n r'.1
  sum : sumZ r'.1 ≤ sumZ r.1
  up : r.2 = true → r'.2 = true
  lt : r.2 = false → r'.2 = true → sumZ r'.1 < sumZ r.1
theorem PassQ.refl {n : Nat} {r : List Int × Bool} (h : ClOK n r.1) : PassQ n r r := ⟨h, Int.le_refl _, id, fun h h' => by rw [h] at h'; cases h'⟩
theorem PassQ.trans {n : Nat} {a b c : List Int × Bool} (h : PassQ n a b) (k : PassQ n b c) : PassQ n a c := ⟨k.ok, Int.le_trans k.sum h.sum, fun q => k.up (h.up q), fun q1 q2 => by
  have h1 := h.sum
  have h2 := k.sum
  rcases hb : b.2 with _ | _
  · have := k.lt hb q2; omega
  · have := h.lt q1 hb; omega⟩
theorem inStep {n : Nat} {r : List Int × Bool} (h : ClOK n r.1) {t u : Tm} {i k : Nat} (hi : i < n) (hk : k < n) : PassQ n r (if inB r.1 t u i k then (joinF r.1 i k, true) else r) := by
  have ha : 0 ≤ (i : Int) ∧ (i : Int) < (n : Int) := by omega
  have hb : 0 ≤ (k : Int) ∧ (k : Int) < (n : Int) := by omega
  split
  · rename_i hq
    have hs := join_sum h ha hb
    refine ⟨join_ok h ha hb, hs.1, fun _ => rfl, fun _ _ => hs.2 ?_⟩
    unfold inB at hq
    rw [Bool.and_eq_true] at hq
    exact of_decide_eq_true hq.1
  · exact .refl h
theorem inL_told {n : Nat} {t : Tm} {i : Nat} (hi : i < n) : ∀ (us : List Tm) (k : Nat) (r : List Int × Bool), k + us.length ≤ n → ClOK n r.1 → PassQ n r (inL t i us k r)
  | [], _, r, _, h => .refl h
  | u :: us, k, r, hk, h => by
    rw [List.length_cons] at hk
    have h1 := inStep (t := t) (u := u) h hi (show k < n by omega)
    exact h1.trans (inL_told hi us (k + 1) _ (by omega) h1.ok)
theorem outL_told {terms : List Tm} : ∀ (ts : List Tm) (i : Nat) (r : List Int × Bool), i + ts.length ≤ terms.length → ClOK terms.length r.1 → PassQ terms.length r (outL terms ts i r)
  | [], _, r, _, h => .refl h
  | t :: ts, i, r, hi, h => by
    rw [List.length_cons] at hi
    have h1 := inL_told (t := t) (n := terms.length) (show i < terms.length by omega) (terms.take i) 0 r (by rw [List.length_take]; omega) h
    exact h1.trans (outL_told ts (i + 1) _ (by omega) h1.ok)
theorem loopF_told {terms : List Tm} : ∀ (n : Nat) (c : List Int), ClOK terms.length c → sumZ c < (n : Int) → ClOK terms.length (loopF terms n c)
  | 0, c, h, hs => by have := (sumZ_rg h.rg).1; omega
  | n + 1, c, h, hs => by
    have h1 := outL_told (terms := terms) terms 0 (c, false) (by omega) h
    unfold loopF
    split
    · rename_i hq
      have := h1.lt rfl hq
      exact loopF_told n _ h1.ok (by simp only at this; omega)
    · exact h1.ok
theorem start_ok (n : Nat) : ClOK n (startF n) := ⟨by simp [startF], fun z hz => by
  unfold startF at hz
  obtain ⟨i, hi, rfl⟩ := List.mem_map.1 hz
  have := List.mem_range.1 hi
  omega⟩
theorem joinAll_ok {n : Nat} : ∀ (pairs : List (Int × Int)) (c : List Int), ClOK n c → (∀ p ∈ pairs, (0 ≤ p.1 ∧ p.1 < (n : Int)) ∧ 0 ≤ p.2 ∧ p.2 < (n : Int)) → ClOK n (joinAll c pairs)
  | [], c, h, _ => h
  | p :: ps, c, h, hp => by
    have h1 := hp p (List.mem_cons_self ..)
    exact joinAll_ok ps _ (join_ok h h1.1 h1.2) fun q hq => hp q (List.mem_cons_of_mem _ hq)
theorem class_ok {terms : List Tm} {pairs : List (Int × Int)} (hp : ∀ p ∈ pairs, (0 ≤ p.1 ∧ p.1 < (terms.length : Int)) ∧ 0 ≤ p.2 ∧ p.2 < (terms.length : Int)) : ClOK terms.length (classF terms pairs) := by
  have h := joinAll_ok pairs _ (start_ok terms.length) hp
  refine loopF_told _ _ h ?_
  have := (sumZ_rg h.rg).2
  rw [h.len] at this
  omega
/-- The pairs that are left still do. -/
theorem why_rel {terms : List Tm} {same : List (Int × Int)} {a b : Int} : ∀ (i : Nat) (left : List Nat), relB terms (pickP same left) a b = true → relB terms (pickP same (whyF terms same a b i left)) a b = true
  | 0, _, h => h
  | i + 1, left, h => by
    unfold whyF
    refine why_rel i _ ?_
    split
    · assumption
    · exact h
theorem why_sub {terms : List Tm} {same : List (Int × Int)} {a b : Int} : ∀ (i : Nat) (left : List Nat), (whyF terms same a b i left).Sublist left
  | 0, _ => List.Sublist.refl _
  | i + 1, left => by
    unfold whyF
    refine (why_sub i _).trans ?_
    split
    · exact List.filter_sublist ..
    · exact List.Sublist.refl _
end Cl
end Go.Proofs.YtnndmdfjdodiiaaGreat

namespace Go.Proofs.YtnndmdfjdodiiaaGreat
set_option linter.unusedVariables false
set_option linter.unusedSimpArgs false

namespace Sv
open Cd Cl
/-! Packages judge, form, solve: forms of free atoms and of equalities. -/
structure At where
  kind : Int
  a : Int
  b : Int
structure Frm where
  terms : List Tm
  atoms : List At
  cls : List (List Int)
structure Stp where
  kind : Int
  lits : List Int
def negF (l : List Int) : List Int := l.map fun x => -x
def fallsF (vars : Nat) (cls : List (List Int)) (c : List Int) : Bool := decide ((runF (vars + 1) cls ⟨negF c, c.map fun _ => -1⟩).2 ≠ -1)
def atomOf (atoms : List At) (l : Int) : At := atoms.getD (l.natAbs - 1) ⟨0, 0, 0⟩
def negPairs (atoms : List At) (lits : List Int) : List (Int × Int) := (lits.filter fun l => decide (l < 0)).map fun l => ((atomOf atoms l).a, (atomOf atoms l).b)
def posEq (atoms : List At) (c : List Int) (l : Int) : Bool := decide (0 < l) && decide (clAt c (atomOf atoms l).a = clAt c (atomOf atoms l).b)
def sameJ (f : Frm) (lits : List Int) : Bool := (lits.all fun l => decide ((atomOf f.atoms l).kind = 2)) && lits.any (posEq f.atoms (classF f.terms (negPairs f.atoms lits)))
def stepJ (f : Frm) (cls : List (List Int)) (x : Stp) : Bool := if x.kind = 1 then fallsF f.atoms.length cls x.lits else sameJ f x.lits
def whyJ (f : Frm) : List Stp → Nat → List (List Int) → Int
  | [], i, cls => if cls.any (fun c => c.isEmpty) then -1 else (i : Int)
  | x :: l, i, cls => if stepJ f cls x then whyJ f l (i + 1) (cls ++ [x.lits]) else (i : Int)
def takeJ (f : Frm) (l : List Stp) : Bool := decide (whyJ f l 0 f.cls = -1)
def litB (holds : List Bool) (l : Int) : Bool := holds.getD (l.natAbs - 1) false == decide (0 < l)
def atomB (things : List Int) (a : At) (is : Bool) : Bool := if a.kind = 2 then decide (clAt things a.a = clAt things a.b) == is else true
def atomsB (things : List Int) : List At → List Bool → Bool
  | [], _ => true
  | a :: l, hs => atomB things a (hs.headD false) && atomsB things l hs.tail
def funB (things : List Int) (t u : Tm) (i k : Nat) : Bool := decide (t.head = u.head) && (decide (clAt things i ≠ clAt things k) && kidsB things t.kids u.kids)
def funL (things : List Int) (t : Tm) (i : Nat) : List Tm → Nat → Bool
  | [], _ => true
  | u :: us, k => !funB things t u i k && funL things t i us (k + 1)
def funsL (things : List Int) (terms : List Tm) : List Tm → Nat → Bool
  | [], _ => true
  | t :: ts, i => funL things t i (terms.take i) 0 && funsL things terms ts (i + 1)
def holdsF (f : Frm) (holds : List Bool) (things : List Int) : Bool := (f.cls.all fun c => c.any (litB holds)) && (atomsB things f.atoms holds && funsL things f.terms f.terms 0)
structure SvS where
  cls : List (List Int)
  steps : List Stp
  used : Nat
def holdsT (vars : Nat) (T : List Int) : List Bool := (List.range vars).map fun v => decide (((v + 1 : Nat) : Int) ∈ T)
def sameIdx (atoms : List At) (holds : List Bool) : List Nat := (List.range atoms.length).filter fun i => decide ((atoms.getD i ⟨0, 0, 0⟩).kind = 2) && holds.getD i false
def pairAt (atoms : List At) (i : Nat) : Int × Int := ((atoms.getD i ⟨0, 0, 0⟩).a, (atoms.getD i ⟨0, 0, 0⟩).b)
def violB (atoms : List At) (holds : List Bool) (c : List Int) (i : Nat) : Bool := decide ((atoms.getD i ⟨0, 0, 0⟩).kind = 2) && (!holds.getD i false && decide (clAt c (atoms.getD i ⟨0, 0, 0⟩).a = clAt c (atoms.getD i ⟨0, 0, 0⟩).b))
def violF (f : Frm) (holds : List Bool) : Option (List Int) :=
  let idx := sameIdx f.atoms holds
  let ps := idx.map (pairAt f.atoms)
  ((List.range f.atoms.length).find? (violB f.atoms holds (classF f.terms ps))).map fun i =>
    ((i + 1 : Nat) : Int) :: (whyF f.terms ps (pairAt f.atoms i).1 (pairAt f.atoms i).2 ps.length (List.range ps.length)).map fun k => -(((idx.getD k 0) + 1 : Nat) : Int)
def classOf (f : Frm) (holds : List Bool) : List Int := classF f.terms ((sameIdx f.atoms holds).map (pairAt f.atoms))
def doC (vars : Nat) (ph : Bool) (fuel : Nat) (cls : List (List Int)) : Ans := doF vars ph fuel ((fuel + 1) * (vars + 2) + 1) ⟨⟨[], []⟩, cls, [], 0, []⟩ 0
inductive Vd where
  | yes (holds : List Bool) (things : List Int) (used : Nat)
  | no (steps : List Stp) (used : Nat)
  | hungry (used : Nat)
def solveF (f : Frm) (ph : Bool) (fuel : Nat) : Nat → SvS → Vd
  | 0, s => .hungry s.used
  | n + 1, s =>
    if 400 < s.cls.length ∨ 3000 < s.steps.length then .hungry s.used
    else match doC f.atoms.length ph (fuel - s.used) s.cls with
      | .hungry u => .hungry (s.used + u)
      | .no st u => if (s.steps ++ st.map fun c => (⟨1, c⟩ : Stp)).length ≤ 3000 ∧ takeJ f (s.steps ++ st.map fun c => ⟨1, c⟩) = true then .no (s.steps ++ st.map fun c => ⟨1, c⟩) (s.used + u) else .hungry (s.used + u)
      | .yes T u => match violF f (holdsT f.atoms.length T) with
        | some c => if s.used + u = fuel then .hungry (s.used + u) else solveF f ph fuel n ⟨s.cls ++ [c], s.steps ++ [⟨3, c⟩], s.used + u + 1⟩
        | none => if holdsF f (holdsT f.atoms.length T) (classOf f (holdsT f.atoms.length T)) = true then .yes (holdsT f.atoms.length T) (classOf f (holdsT f.atoms.length T)) (s.used + u) else .hungry (s.used + u)
def solveV (f : Frm) (ph : Bool) (fuel : Nat) : Vd := solveF f ph fuel (fuel + 1) ⟨f.cls, [], 0⟩
/-- The verdict's state. -/
def Vd.st : Vd → Int
  | .yes _ _ _ => 1
  | .no _ _ => 2
  | .hungry _ => 3

theorem neg_good {vars : Nat} {c : List Int} (h : (c.map Int.natAbs).Nodup ∧ ∀ l ∈ c, l ≠ 0 ∧ l.natAbs ≤ vars) : GoodT vars (negF c) := by
  refine ⟨?_, fun l hl => ?_⟩
  · unfold negF
    rw [List.map_map]
    have : (Int.natAbs ∘ fun x : Int => -x) = Int.natAbs := by funext x; simp
    rw [this]
    exact h.1
  · obtain ⟨x, hx, rfl⟩ := List.mem_map.1 hl
    have := h.2 x hx
    omega
theorem why_neg (cls : List (List Int)) (c : List Int) : WhyT cls ⟨negF c, c.map fun _ => -1⟩ := by
  refine ⟨by simp [negF], fun i l hl => ⟨-1, ?_, .inl rfl⟩⟩
  have hi : i < c.length := by simpa [negF] using (List.getElem?_eq_some_iff.1 hl).1
  show (c.map fun _ => (-1 : Int))[i]? = some (-1)
  rw [List.getElem?_map, List.getElem?_eq_getElem hi]; rfl
theorem falls_of_rup {vars : Nat} {cls : List (List Int)} {c : List Int} (hc : ClsOK vars cls) (h : (c.map Int.natAbs).Nodup ∧ ∀ l ∈ c, l ≠ 0 ∧ l.natAbs ≤ vars) (hr : Rup cls c) : fallsF vars cls c = true := by
  have R := run_told hc (vars + 1) ⟨negF c, c.map fun _ => -1⟩ (neg_good h) (why_neg cls c) (by omega)
  unfold fallsF
  refine decide_eq_true fun e => ?_
  obtain ⟨L, W, h1, _⟩ := R.pre
  exact hr _ (R.done e) fun l hl => by
    rw [h1]
    exact List.mem_append.2 (.inl (List.mem_map.2 ⟨l, hl, rfl⟩))
/-- Steps that are all taken, with an empty clause at the end. -/
theorem whyJ_all {f : Frm} : ∀ (l : List Stp) (i : Nat) (cls : List (List Int)), (∀ k x, l[k]? = some x → stepJ f (cls ++ (l.take k).map Stp.lits) x = true) → (∃ x ∈ l, x.lits = []) → whyJ f l i cls = -1
  | [], _, _, _, h => by obtain ⟨x, hx, _⟩ := h; cases hx
  | x :: l, i, cls, h, he => by
    have h0 := h 0 x rfl
    rw [List.take_zero, List.map_nil, List.append_nil] at h0
    unfold whyJ
    rw [if_pos h0]
    have hs : ∀ k y, l[k]? = some y → stepJ f (cls ++ [x.lits] ++ (l.take k).map Stp.lits) y = true := fun k y hy => by
      have := h (k + 1) y hy
      rw [List.take_succ_cons, List.map_cons] at this
      rw [List.append_assoc]
      exact this
    by_cases hl : ∃ y ∈ l, y.lits = []
    · exact whyJ_all l (i + 1) _ hs hl
    · obtain ⟨y, hy, hyl⟩ := he
      rcases List.mem_cons.1 hy with rfl | hy
      · -- the empty clause is the first step's
        have key : ∀ (l : List Stp) (i : Nat) (cls : List (List Int)), [] ∈ cls → (∀ k x, l[k]? = some x → stepJ f (cls ++ (l.take k).map Stp.lits) x = true) → whyJ f l i cls = -1 := by
          intro l
          induction l with
          | nil =>
            intro i cls hm _
            unfold whyJ
            rw [if_pos (List.any_eq_true.2 ⟨[], hm, rfl⟩)]
          | cons z l ih =>
            intro i cls hm hz
            have h0 := hz 0 z rfl
            rw [List.take_zero, List.map_nil, List.append_nil] at h0
            unfold whyJ
            rw [if_pos h0]
            refine ih _ _ (List.mem_append.2 (.inl hm)) fun k w hw => ?_
            have := hz (k + 1) w hw
            rw [List.take_succ_cons, List.map_cons] at this
            rw [List.append_assoc]
            exact this
        exact key l (i + 1) _ (List.mem_append.2 (.inr (by rw [hyl]; exact List.mem_cons_self ..))) hs
      · exact absurd ⟨y, hy, hyl⟩ hl
theorem inv_start {vars : Nat} {cls : List (List Int)} (h : ClsOK vars cls) : InvT vars ⟨⟨[], []⟩, cls, [], 0, []⟩ :=
  ⟨h, ⟨List.nodup_nil, fun l hl => (by cases hl)⟩, ⟨rfl, fun i l hl => (by cases hl)⟩, rfl, fun i j a b _ ha => (by cases ha), fun a ha => (by cases ha), fun j hj => (by cases hj), fun k h1 h2 => absurd h2 (by show ¬ k ≤ 0; omega)⟩
theorem lrn_start (vars : Nat) (cls : List (List Int)) : Lrn vars cls ⟨⟨[], []⟩, cls, [], 0, []⟩ := ⟨by simp, fun i c hc => (by cases hc), List.nodup_nil⟩
theorem doC_told {vars : Nat} {ph : Bool} {fuel : Nat} {cls : List (List Int)} (h : ClsOK vars cls) (hf : 3 ^ vars < fuel) : ToldT vars cls (doC vars ph fuel cls) := by
  unfold doC
  refine do_told hf _ _ 0 (inv_start h) (lrn_start vars cls) rfl ?_
  have h1 : (3 ^ vars + 1 - 0) * (vars + 2) ≤ fuel * (vars + 2) := Nat.mul_le_mul_right _ (by omega)
  rw [Nat.add_mul, Nat.one_mul]
  simp only [List.length_nil]
  omega
theorem holdsT_at {vars : Nat} {T : List Int} {l : Int} (h0 : l ≠ 0) (hv : l.natAbs ≤ vars) : litB (holdsT vars T) l = (decide (((l.natAbs : Nat) : Int) ∈ T) == decide (0 < l)) := by
  unfold litB holdsT
  have hi : l.natAbs - 1 < vars := by omega
  rw [List.getD_eq_getElem?_getD, List.getElem?_map, List.getElem?_eq_getElem (by simpa using hi), List.getElem_range]
  simp only [Option.map_some, Option.getD_some]
  rw [show l.natAbs - 1 + 1 = l.natAbs by omega]
theorem lit_of_mem {vars : Nat} {T : List Int} (hg : GoodT vars T) {l : Int} (hl : l ∈ T) : litB (holdsT vars T) l = true := by
  have h := hg.2 l hl
  rw [holdsT_at h.1 h.2]
  rcases Int.lt_or_lt_of_ne h.1 with q | q
  · have : ((l.natAbs : Nat) : Int) = -l := by omega
    rw [this, decide_eq_false (show ¬ 0 < l by omega), decide_eq_false fun k => hg.cons hl k]; rfl
  · have : ((l.natAbs : Nat) : Int) = l := by omega
    rw [this, decide_eq_true hl, decide_eq_true q]; rfl
/-- Free clauses: satisfiable just if the solver says so. -/
structure FreeOK (f : Frm) : Prop where
  tm : f.terms = []
  at' : ∀ a ∈ f.atoms, a.kind = 1
  ok : ClsOK f.atoms.length f.cls
  few : f.atoms.length ≤ 5
  cl : f.cls.length ≤ 20
theorem atomsB_free {things : List Int} : ∀ (l : List At) (hs : List Bool), (∀ a ∈ l, a.kind = 1) → atomsB things l hs = true
  | [], _, _ => rfl
  | a :: l, hs, h => by
    unfold atomsB
    have h1 := h a (List.mem_cons_self ..)
    rw [atomsB_free l _ fun b hb => h b (List.mem_cons_of_mem _ hb)]
    unfold atomB
    rw [h1]; rfl
theorem free_solved {f : Frm} (h : FreeOK f) {ph : Bool} : (∃ holds things used, solveV f ph 2000 = .yes holds things used ∧ (f.cls.all fun c => c.any (litB holds)) = true ∧ holds.length = f.atoms.length) ∨ (∃ st used, solveV f ph 2000 = .no st used ∧ ∀ T : List Int, (∀ l, l ∈ T → -l ∈ T → False) → (∀ v : Nat, 1 ≤ v → v ≤ f.atoms.length → (v : Int) ∈ T ∨ -(v : Int) ∈ T) → ∃ c ∈ f.cls, ∀ l ∈ c, l ∉ T) := by
  have h5 : 3 ^ f.atoms.length ≤ 243 := Nat.le_trans (Nat.pow_le_pow_right (by omega) h.few) (by decide)
  have hT := doC_told (ph := ph) (fuel := 2000) h.ok (by omega)
  have hidx : ∀ hs, sameIdx f.atoms hs = [] := fun hs => by
    unfold sameIdx
    rw [List.filter_eq_nil_iff]
    intro i hi
    have hi := List.mem_range.1 hi
    have : (f.atoms.getD i ⟨0, 0, 0⟩).kind = 1 := by
      rw [List.getD_eq_getElem?_getD, List.getElem?_eq_getElem hi]
      exact h.at' _ (List.getElem_mem hi)
    rw [this]
    simp
  have hviol : ∀ hs, violF f hs = none := fun hs => by
    unfold violF
    simp only
    rw [List.find?_eq_none.2 fun i hi => ?_]
    · rfl
    · have hi := List.mem_range.1 hi
      have : (f.atoms.getD i ⟨0, 0, 0⟩).kind = 1 := by
        rw [List.getD_eq_getElem?_getD, List.getElem?_eq_getElem hi]
        exact h.at' _ (List.getElem_mem hi)
      unfold violB
      rw [this]
      simp
  unfold solveV solveF
  rw [if_neg (by have := h.cl; simp; omega), Nat.sub_zero]
  rcases hd : doC f.atoms.length ph 2000 f.cls with ⟨T, u⟩ | ⟨st, u⟩ | u
  · rw [hd] at hT
    obtain ⟨hg, hcl, hall, _⟩ := hT
    simp only
    rw [hviol]
    simp only
    have hsat : (f.cls.all fun c => c.any (litB (holdsT f.atoms.length T))) = true := by
      rw [List.all_eq_true]
      intro c hc
      rw [List.any_eq_true]
      obtain ⟨l, hl, hlT⟩ := true_of_closed hcl hc fun l hl => by
        have := (h.ok c hc).2 l hl
        rcases Int.lt_or_lt_of_ne this.1 with q | q
        · have e : ((l.natAbs : Nat) : Int) = -l := by omega
          have := hall l.natAbs (by omega) this.2
          rw [e, Int.neg_neg] at this
          exact this.symm
        · have e : ((l.natAbs : Nat) : Int) = l := by omega
          have := hall l.natAbs (by omega) this.2
          rw [e] at this
          exact this
      exact ⟨l, hl, lit_of_mem hg hlT⟩
    refine .inl ⟨_, _, _, if_pos ?_, hsat, by simp [holdsT]⟩
    unfold holdsF
    rw [hsat, atomsB_free _ _ h.at', h.tm]; rfl
  · rw [hd] at hT
    obtain ⟨h1, h2, ⟨L, hL⟩, h4, h6⟩ := hT
    have hC : (([] : List Stp) ++ st.map fun c => (⟨1, c⟩ : Stp)).length ≤ 3000 ∧ takeJ f (([] : List Stp) ++ st.map fun c => (⟨1, c⟩ : Stp)) = true := by
      refine ⟨by rw [List.nil_append, List.length_map]; omega, ?_⟩
      unfold takeJ
      refine decide_eq_true (whyJ_all _ 0 f.cls (fun k x hx => ?_) ?_)
      · simp only [List.nil_append] at hx ⊢
        rw [List.getElem?_map] at hx
        rcases hk : st[k]? with _ | c
        · rw [hk] at hx; cases hx
        · rw [hk] at hx
          cases hx
          unfold stepJ
          rw [if_pos rfl]
          have e : ((st.map fun c => (⟨1, c⟩ : Stp)).take k).map Stp.lits = st.take k := by
            rw [← List.map_take, List.map_map]
            exact List.map_id _
          rw [e]
          refine falls_of_rup (fun d hd => ?_) (h4 c (List.mem_of_getElem? hk)) (h6 k c hk)
          rcases List.mem_append.1 hd with hd | hd
          · exact h.ok d hd
          · exact h4 d (List.mem_of_mem_take hd)
      · refine ⟨⟨1, []⟩, ?_, rfl⟩
        rw [List.nil_append]
        exact List.mem_map.2 ⟨[], by rw [hL]; simp, rfl⟩
    refine .inr ⟨_, _, if_pos hC, fun T hc hall => ?_⟩
    · apply Classical.byContradiction
      intro hno
      have hsat : ∀ c ∈ f.cls, ∃ l ∈ c, l ∈ T := fun c hcc => by
        apply Classical.byContradiction
        intro hn
        exact hno ⟨c, hcc, fun l hl hlT => hn ⟨l, hl, hlT⟩⟩
      have hl2 : ∀ c ∈ f.cls ++ st, ∀ l ∈ c, l ∈ T ∨ -l ∈ T := fun c hcc l hl => by
        have : l ≠ 0 ∧ l.natAbs ≤ f.atoms.length := by
          rcases List.mem_append.1 hcc with q | q
          · exact (h.ok c q).2 l hl
          · exact (h4 c q).2 l hl
        rcases Int.lt_or_lt_of_ne this.1 with q | q
        · have e : ((l.natAbs : Nat) : Int) = -l := by omega
          have := hall l.natAbs (by omega) this.2
          rw [e, Int.neg_neg] at this
          exact this.symm
        · have e : ((l.natAbs : Nat) : Int) = l := by omega
          have := hall l.natAbs (by omega) this.2
          rw [e] at this
          exact this
      obtain ⟨l, hl, _⟩ := chain_sound h6 hsat hc hl2 [] (by rw [hL]; simp)
      cases hl
  · rw [hd] at hT
    exact hT.elim
end Sv
end Go.Proofs.YtnndmdfjdodiiaaGreat

namespace Go.Proofs.YtnndmdfjdodiiaaGreat
set_option linter.unusedVariables false
set_option linter.unusedSimpArgs false

namespace Sv
open Cd Cl
/-! Equalities that are told outright: the solver and close say the same. -/
structure En where
  a : Int
  b : Int
  s : Bool
def en0 : En := ⟨0, 0, false⟩
def prE (e : En) : Int × Int := (e.a, e.b)
def atomsE (E : List En) : List At := E.map fun e => ⟨2, e.a, e.b⟩
def litE (e : En) (i : Nat) : Int := if e.s then ((i + 1 : Nat) : Int) else -((i + 1 : Nat) : Int)
def placesE (E : List En) : List Int := (List.range E.length).map fun i => litE (E.getD i en0) i
def clsE (E : List En) : List (List Int) := (placesE E).map fun l => [l]
def sameE (E : List En) : List (Int × Int) := (E.filter fun e => e.s).map prE
def apartE (E : List En) : List (Int × Int) := (E.filter fun e => !e.s).map prE
def sidx (E : List En) : List Nat := (List.range E.length).filter fun i => (E.getD i en0).s
def aidx (E : List En) : List Nat := (List.range E.length).filter fun i => !(E.getD i en0).s
def samesP (E : List En) : List Int := (placesE E).filter fun l => decide (0 < l)
def apartsP (E : List En) : List Int := ((placesE E).filter fun l => !decide (0 < l)).map fun l => -l
theorem list_range {α : Type} (l : List α) (d : α) : l = (List.range l.length).map fun i => l.getD i d := by
  apply List.ext_getElem
  · simp
  · intro i h1 h2
    simp [List.getD_eq_getElem?_getD, h1]
theorem sameE_idx (E : List En) : sameE E = (sidx E).map fun i => prE (E.getD i en0) := by
  unfold sameE sidx
  conv => lhs; rw [list_range E en0]
  rw [List.filter_map, List.map_map]
  rfl
theorem apartE_idx (E : List En) : apartE E = (aidx E).map fun i => prE (E.getD i en0) := by
  unfold apartE aidx
  conv => lhs; rw [list_range E en0]
  rw [List.filter_map, List.map_map]
  rfl
theorem litE_pos (e : En) (i : Nat) : decide (0 < litE e i) = e.s := by
  unfold litE
  cases e.s
  · simp; omega
  · simp
theorem litE_abs (e : En) (i : Nat) : (litE e i).natAbs = i + 1 := by unfold litE; split <;> omega
theorem samesP_idx (E : List En) : samesP E = (sidx E).map fun i => ((i + 1 : Nat) : Int) := by
  unfold samesP placesE sidx
  rw [List.filter_map]
  have e : ((fun l : Int => decide (0 < l)) ∘ fun i => litE (E.getD i en0) i) = fun i => (E.getD i en0).s := by funext i; exact litE_pos _ _
  rw [e]
  refine List.map_congr_left fun i hi => ?_
  have := (List.mem_filter.1 hi).2
  unfold litE
  rw [if_pos this]
theorem apartsP_idx (E : List En) : apartsP E = (aidx E).map fun i => ((i + 1 : Nat) : Int) := by
  unfold apartsP placesE aidx
  rw [List.filter_map]
  have e : ((fun l : Int => !decide (0 < l)) ∘ fun i => litE (E.getD i en0) i) = fun i => !(E.getD i en0).s := by funext i; simp only [Function.comp]; rw [litE_pos]
  rw [e, List.map_map]
  refine List.map_congr_left fun i hi => ?_
  have := (List.mem_filter.1 hi).2
  simp only [Function.comp]
  unfold litE
  rw [if_neg (by simpa using this), Int.neg_neg]
theorem getD_old (E : List En) (e : En) {i : Nat} (h : i < E.length) : (E ++ [e]).getD i en0 = E.getD i en0 := by
  rw [List.getD_eq_getElem?_getD, List.getD_eq_getElem?_getD, List.getElem?_append_left h]
theorem getD_new (E : List En) (e : En) : (E ++ [e]).getD E.length en0 = e := by
  rw [List.getD_eq_getElem?_getD, List.getElem?_append_right (Nat.le_refl _)]; simp
theorem places_snoc (E : List En) (e : En) : placesE (E ++ [e]) = placesE E ++ [litE e E.length] := by
  unfold placesE
  rw [List.length_append, List.length_singleton, List.range_succ, List.map_append, List.map_singleton, getD_new]
  congr 1
  exact List.map_congr_left fun i hi => by rw [getD_old E e (List.mem_range.1 hi)]
theorem cls_snoc (E : List En) (e : En) : clsE (E ++ [e]) = clsE E ++ [[litE e E.length]] := by unfold clsE; rw [places_snoc, List.map_append]; rfl
theorem same_snoc (E : List En) (e : En) : sameE (E ++ [e]) = sameE E ++ if e.s then [prE e] else [] := by
  unfold sameE; rw [List.filter_append, List.map_append]; cases h : e.s <;> simp [h]
theorem apart_snoc (E : List En) (e : En) : apartE (E ++ [e]) = apartE E ++ if e.s then [] else [prE e] := by
  unfold apartE; rw [List.filter_append, List.map_append]; cases h : e.s <;> simp [h]
theorem places_mem {E : List En} {l : Int} (h : l ∈ placesE E) : ∃ i, i < E.length ∧ l = litE (E.getD i en0) i := by
  obtain ⟨i, hi, rfl⟩ := List.mem_map.1 h
  exact ⟨i, List.mem_range.1 hi, rfl⟩
theorem places_of {E : List En} {i : Nat} (h : i < E.length) : litE (E.getD i en0) i ∈ placesE E := List.mem_map.2 ⟨i, List.mem_range.2 h, rfl⟩
theorem places_len (E : List En) : (placesE E).length = E.length := by simp [placesE]
theorem clsE_ok (E : List En) : ClsOK E.length (clsE E) := by
  intro c hc
  obtain ⟨l, hl, rfl⟩ := List.mem_map.1 hc
  obtain ⟨i, hi, rfl⟩ := places_mem hl
  refine ⟨by simp, fun x hx => ?_⟩
  obtain rfl := List.mem_singleton.1 hx
  have := litE_abs (E.getD i en0) i
  omega
theorem cls_both {n : Nat} {A X : List (List Int)} (h : ClsOK n A) (hX : ClsOK n X) : ClsOK n (A ++ X) := fun c hc => (List.mem_append.1 hc).elim (h c) (hX c)
theorem run_start {vars : Nat} {cls : List (List Int)} (h : ClsOK vars cls) : RunQ vars cls ⟨[], []⟩ (runF (vars + 1) cls ⟨[], []⟩) :=
  run_told h (vars + 1) ⟨[], []⟩ ⟨by simp, by simp⟩ ⟨rfl, fun i l hl => by simp at hl⟩ (by simp)
theorem unit_in {T : List Int} {l : Int} (h0 : l ≠ 0) (h : stF T [l] = (false, 0)) : l ∈ T := by
  unfold stF stG at h
  split at h
  · simp [stG] at h
  · split at h
    · rename_i q; simpa using q
    · exact absurd (congrArg Prod.snd h) h0
theorem runs_in {E : List En} {X : List (List Int)} (hX : ClsOK E.length X) (h : (runF (E.length + 1) (clsE E ++ X) ⟨[], []⟩).2 = -1) : ∀ l ∈ placesE E, l ∈ (runF (E.length + 1) (clsE E ++ X) ⟨[], []⟩).1.lits := by
  have R := run_start (cls_both (clsE_ok E) hX)
  intro l hl
  obtain ⟨i, hi, e⟩ := places_mem hl
  have ha := litE_abs (E.getD i en0) i
  rw [← e] at ha
  exact unit_in (by omega) (R.done h [l] (List.mem_append.2 (.inl (List.mem_map.2 ⟨l, hl, rfl⟩))))
theorem run_bad {E : List En} {X : List (List Int)} (hX : ClsOK E.length X) {c : List Int} (hc : c ∈ X) (hn : ∀ l ∈ c, -l ∈ placesE E) : (runF (E.length + 1) (clsE E ++ X) ⟨[], []⟩).2 ≠ -1 := by
  intro h
  have R := run_start (cls_both (clsE_ok E) hX)
  have h1 := R.done h c (List.mem_append.2 (.inr hc))
  have h2 : stF (runF (E.length + 1) (clsE E ++ X) ⟨[], []⟩).1.lits c = (true, 0) := stG_of (fun l hl => runs_in hX h _ (hn l hl)) 0
  rw [h2] at h1
  cases h1
theorem run_good (E : List En) : (runF (E.length + 1) (clsE E) ⟨[], []⟩).2 = -1 ∧ ∀ x, x ∈ (runF (E.length + 1) (clsE E) ⟨[], []⟩).1.lits ↔ x ∈ placesE E := by
  have R := run_start (clsE_ok E)
  have hsub : ∀ x, x ∈ (runF (E.length + 1) (clsE E) ⟨[], []⟩).1.lits → x ∈ placesE E := by
    intro x hx
    obtain ⟨i, hi⟩ := List.getElem?_of_mem hx
    obtain ⟨y, hy, hq⟩ := R.why.2 i x hi
    obtain ⟨L, W, _, h2, _, h4⟩ := R.pre
    have hy' : y ∈ W := by
      have := List.mem_of_getElem? hy
      rw [h2] at this
      simpa using this
    rcases hq with e | ⟨k, _, c, hc, hxc, _⟩
    · exact absurd e (h4 y hy')
    · obtain ⟨l, hl, rfl⟩ := List.mem_map.1 (List.mem_of_getElem? hc)
      obtain rfl := List.mem_singleton.1 hxc
      exact hl
  have h1 : (runF (E.length + 1) (clsE E) ⟨[], []⟩).2 = -1 := by
    refine Classical.byContradiction fun hne => ?_
    obtain ⟨k, _, c, hc, hn⟩ := R.bad hne
    obtain ⟨l, hl, rfl⟩ := List.mem_map.1 (List.mem_of_getElem? hc)
    have h2 := hsub _ (hn l (List.mem_singleton.2 rfl))
    obtain ⟨i, hi, e1⟩ := places_mem hl
    obtain ⟨j, hj, e2⟩ := places_mem h2
    have a1 := litE_abs (E.getD i en0) i
    have a2 := litE_abs (E.getD j en0) j
    rw [← e1] at a1
    rw [← e2] at a2
    obtain rfl : i = j := by omega
    omega
  refine ⟨h1, fun x => ⟨hsub x, fun h => ?_⟩⟩
  have := runs_in (E := E) (X := []) (fun c hc => by cases hc) (by rw [List.append_nil]; exact h1) x h
  rwa [List.append_nil] at this
theorem doC_unit {vars : Nat} {ph : Bool} {fuel : Nat} {cls : List (List Int)} (hf : 0 < fuel) {t : Tr} {r : Int} (h : runF (vars + 1) cls ⟨[], []⟩ = (t, r)) (hall : r = -1 → ∀ v : Nat, 1 ≤ v → v ≤ vars → (v : Int) ∈ t.lits ∨ -(v : Int) ∈ t.lits) : doC vars ph fuel cls = if r ≠ -1 then .no [[]] 1 else .yes t.lits 0 := by
  unfold doC doF propF
  simp only [h]
  by_cases hr : r = -1
  · rw [if_neg (by simpa using hr), if_neg (by simpa using hr)]
    have hx := nextF_told (T := t.lits) (vars := vars) vars (Nat.le_refl _)
    rcases hn : nextF t.lits vars vars with _ | v
    · rfl
    · rw [hn] at hx
      simp only at hx
      rcases hall hr v (by omega) (by omega) with q | q
      · exact absurd q hx.2.2.1
      · exact absurd q hx.2.2.2
  · rw [if_pos hr, if_pos hr, if_neg (by omega)]
    rfl
theorem idx_lt {E : List En} {i : Nat} (h : i ∈ sidx E) : i < E.length ∧ (E.getD i en0).s = true := ⟨List.mem_range.1 (List.mem_filter.1 h).1, (List.mem_filter.1 h).2⟩
theorem aidx_lt {E : List En} {i : Nat} (h : i ∈ aidx E) : i < E.length ∧ (E.getD i en0).s = false := ⟨List.mem_range.1 (List.mem_filter.1 h).1, by simpa using (List.mem_filter.1 h).2⟩
theorem holds_E (E : List En) {T : List Int} (h : ∀ x, x ∈ T ↔ x ∈ placesE E) : holdsT E.length T = E.map fun e => e.s := by
  unfold holdsT
  apply List.ext_getElem
  · simp
  · intro i h1 h2
    have hi : i < E.length := by simpa using h1
    simp only [List.getElem_map, List.getElem_range]
    have e : E.getD i en0 = E[i] := by rw [List.getD_eq_getElem?_getD, List.getElem?_eq_getElem hi]; rfl
    cases hs : E[i].s
    · refine decide_eq_false fun q => ?_
      obtain ⟨j, hj, e2⟩ := places_mem ((h _).1 q)
      have a := litE_abs (E.getD j en0) j
      rw [← e2] at a
      obtain rfl : i = j := by omega
      rw [e] at e2
      unfold litE at e2
      rw [hs] at e2
      simp at e2
      omega
    · refine decide_eq_true ((h _).2 ?_)
      have := places_of hi
      rw [e] at this
      unfold litE at this
      rwa [if_pos hs] at this
theorem atomsE_at {E : List En} {i : Nat} (h : i < E.length) : (atomsE E).getD i ⟨0, 0, 0⟩ = ⟨2, (E.getD i en0).a, (E.getD i en0).b⟩ := by
  unfold atomsE
  rw [List.getD_eq_getElem?_getD, List.getElem?_map, List.getElem?_eq_getElem h, List.getD_eq_getElem?_getD, List.getElem?_eq_getElem h]; rfl
theorem holds_at {E : List En} {i : Nat} (h : i < E.length) : (E.map fun e => e.s).getD i false = (E.getD i en0).s := by
  rw [List.getD_eq_getElem?_getD, List.getElem?_map, List.getElem?_eq_getElem h, List.getD_eq_getElem?_getD, List.getElem?_eq_getElem h]; rfl
theorem atomsE_len (E : List En) : (atomsE E).length = E.length := List.length_map _
theorem sameIdx_E (E : List En) : sameIdx (atomsE E) (E.map fun e => e.s) = sidx E := by
  unfold sameIdx sidx
  rw [atomsE_len]
  refine List.filter_congr fun i hi => ?_
  have hi := List.mem_range.1 hi
  rw [atomsE_at hi, holds_at hi]
  rfl
theorem pairs_E (E : List En) : (sidx E).map (pairAt (atomsE E)) = sameE E := by
  rw [sameE_idx]
  refine List.map_congr_left fun i hi => ?_
  unfold pairAt
  rw [atomsE_at (idx_lt hi).1]
  rfl
def negsE (E : List En) (K : List Nat) : List Int := K.map fun k => -(((sidx E).getD k 0 + 1 : Nat) : Int)
theorem sidx_at {E : List En} {k : Nat} (h : k < (sidx E).length) : (sidx E).getD k 0 ∈ sidx E := by
  rw [List.getD_eq_getElem?_getD, List.getElem?_eq_getElem h]
  exact List.getElem_mem h
theorem sidx_nodup (E : List En) : (sidx E).Nodup := List.nodup_range.filter _
theorem negs_mem {E : List En} {K : List Nat} (hK : K.Sublist (List.range (sidx E).length)) {l : Int} (h : l ∈ negsE E K) : ∃ j ∈ sidx E, l = -((j + 1 : Nat) : Int) := by
  obtain ⟨k, hk, rfl⟩ := List.mem_map.1 h
  exact ⟨_, sidx_at (List.mem_range.1 (hK.subset hk)), rfl⟩
theorem negs_nodup {E : List En} {K : List Nat} (hK : K.Sublist (List.range (sidx E).length)) : ((negsE E K).map Int.natAbs).Nodup := by
  unfold negsE
  rw [List.map_map]
  have hn : K.Nodup := List.nodup_range.sublist hK
  have hl : ∀ k ∈ K, k < (sidx E).length := fun k hk => List.mem_range.1 (hK.subset hk)
  clear hK
  induction K with
  | nil => simp
  | cons k K ih =>
    rw [List.nodup_cons] at hn
    rw [List.map_cons, List.nodup_cons]
    refine ⟨fun hm => ?_, ih hn.2 fun x hx => hl x (List.mem_cons_of_mem _ hx)⟩
    obtain ⟨x, hx, e⟩ := List.mem_map.1 hm
    simp only [Function.comp] at e
    have h1 := hl k (List.mem_cons_self ..)
    have h2 := hl x (List.mem_cons_of_mem _ hx)
    have e2 : (sidx E).getD x 0 = (sidx E).getD k 0 := by omega
    rw [List.getD_eq_getElem?_getD, List.getD_eq_getElem?_getD, List.getElem?_eq_getElem h1, List.getElem?_eq_getElem h2] at e2
    have := (List.getElem?_inj (l := sidx E) h2 (sidx_nodup E)).1 (by rw [List.getElem?_eq_getElem h1, List.getElem?_eq_getElem h2]; exact congrArg some e2)
    subst this
    exact hn.1 hx
/-- A clause that units make false. -/
theorem clause_E {E : List En} {K : List Nat} (hK : K.Sublist (List.range (sidx E).length)) {i : Nat} (hi : i ∈ aidx E) {c : List Int} (hc : c.Perm (((i + 1 : Nat) : Int) :: negsE E K)) : ((c.map Int.natAbs).Nodup ∧ ∀ l ∈ c, l ≠ 0 ∧ l.natAbs ≤ E.length) ∧ ∀ l ∈ c, -l ∈ placesE E := by
  have hi' := aidx_lt hi
  have key : ∀ l ∈ c, (l = ((i + 1 : Nat) : Int) ∨ ∃ j ∈ sidx E, l = -((j + 1 : Nat) : Int)) := fun l hl => by
    rcases List.mem_cons.1 (hc.subset hl) with q | q
    · exact .inl q
    · exact .inr (negs_mem hK q)
  refine ⟨⟨?_, fun l hl => ?_⟩, fun l hl => ?_⟩
  · rw [(hc.map Int.natAbs).nodup_iff, List.map_cons, List.nodup_cons]
    refine ⟨fun hm => ?_, negs_nodup hK⟩
    obtain ⟨l, hl, e⟩ := List.mem_map.1 hm
    obtain ⟨j, hj, rfl⟩ := negs_mem hK hl
    obtain rfl : j = i := by omega
    rw [(idx_lt hj).2] at hi'
    cases hi'.2
  · rcases key l hl with rfl | ⟨j, hj, rfl⟩
    · omega
    · have := (idx_lt hj).1
      omega
  · rcases key l hl with rfl | ⟨j, hj, rfl⟩
    · have := places_of hi'.1
      unfold litE at this
      rwa [hi'.2] at this
    · have := places_of (idx_lt hj).1
      unfold litE at this
      rw [(idx_lt hj).2] at this
      rwa [Int.neg_neg]
theorem units_all {E : List En} {T : List Int} (h : ∀ l ∈ placesE E, l ∈ T) : ∀ v : Nat, 1 ≤ v → v ≤ E.length → (v : Int) ∈ T ∨ -(v : Int) ∈ T := by
  intro v h1 h2
  have := h _ (places_of (show v - 1 < E.length by omega))
  unfold litE at this
  rw [show v - 1 + 1 = v by omega] at this
  split at this
  · exact .inl this
  · exact .inr this
def frmE (terms : List Tm) (E : List En) : Frm := ⟨terms, atomsE E, clsE E⟩
theorem doC_E1 (E : List En) (ph : Bool) (n : Nat) (hn : 0 < n) : ∃ T, doC E.length ph n (clsE E) = .yes T 0 ∧ holdsT E.length T = E.map fun e => e.s := by
  obtain ⟨h1, h2⟩ := run_good E
  refine ⟨(runF (E.length + 1) (clsE E) ⟨[], []⟩).1.lits, ?_, holds_E E h2⟩
  rw [doC_unit (t := (runF (E.length + 1) (clsE E) ⟨[], []⟩).1) (r := (runF (E.length + 1) (clsE E) ⟨[], []⟩).2) hn rfl fun _ => units_all fun l hl => (h2 l).2 hl, if_neg (by simpa using h1)]
theorem doC_E2 (E : List En) (ph : Bool) (n : Nat) (hn : 0 < n) {c : List Int} (k1 : (c.map Int.natAbs).Nodup ∧ ∀ l ∈ c, l ≠ 0 ∧ l.natAbs ≤ E.length) (k2 : ∀ l ∈ c, -l ∈ placesE E) : doC E.length ph n (clsE E ++ [c]) = .no [[]] 1 := by
  have hX : ClsOK E.length [c] := fun d hd => by rw [List.mem_singleton.1 hd]; exact k1
  have hb := run_bad hX (List.mem_singleton.2 rfl) k2
  rw [doC_unit (t := (runF (E.length + 1) (clsE E ++ [c]) ⟨[], []⟩).1) (r := (runF (E.length + 1) (clsE E ++ [c]) ⟨[], []⟩).2) hn rfl fun h => absurd h hb, if_pos hb]
theorem viol_at (terms : List Tm) (E : List En) : violF (frmE terms E) (E.map fun e => e.s) = ((List.range E.length).find? fun i => !(E.getD i en0).s && relB terms (sameE E) (E.getD i en0).a (E.getD i en0).b).map fun i => ((i + 1 : Nat) : Int) :: negsE E (whyF terms (sameE E) (pairAt (atomsE E) i).1 (pairAt (atomsE E) i).2 (sameE E).length (List.range (sameE E).length)) := by
  have hB : ∀ i ∈ List.range E.length, violB (atomsE E) (E.map fun e => e.s) (classF terms (sameE E)) i = (!(E.getD i en0).s && relB terms (sameE E) (E.getD i en0).a (E.getD i en0).b) := fun i hi => by
    have hi := List.mem_range.1 hi
    unfold violB relB
    rw [atomsE_at hi, holds_at hi]
    rfl
  have e : (List.range E.length).find? (violB (atomsE E) (E.map fun e => e.s) (classF terms (sameE E))) = (List.range E.length).find? fun i => !(E.getD i en0).s && relB terms (sameE E) (E.getD i en0).a (E.getD i en0).b := by
    generalize List.range E.length = R at hB
    induction R with
    | nil => rfl
    | cons i R ih =>
      rw [List.find?_cons, List.find?_cons, hB i (List.mem_cons_self ..), ih fun j hj => hB j (List.mem_cons_of_mem _ hj)]
  unfold violF frmE
  simp only
  rw [sameIdx_E, pairs_E, atomsE_len, e]
  rfl
theorem viol_E1 {terms : List Tm} {E : List En} (h : ∀ i ∈ aidx E, relB terms (sameE E) (E.getD i en0).a (E.getD i en0).b = false) : violF (frmE terms E) (E.map fun e => e.s) = none := by
  rw [viol_at, List.find?_eq_none.2 fun i hi => ?_]
  · rfl
  · cases hs : (E.getD i en0).s
    · rw [h i (List.mem_filter.2 ⟨hi, by rw [hs]; rfl⟩)]; simp
    · simp
theorem viol_E2 {terms : List Tm} {E : List En} (h : ∃ i ∈ aidx E, relB terms (sameE E) (E.getD i en0).a (E.getD i en0).b = true) : ∃ c, violF (frmE terms E) (E.map fun e => e.s) = some c := by
  obtain ⟨i0, hi0, hr0⟩ := h
  rw [viol_at]
  rcases hf : (List.range E.length).find? (fun i => !(E.getD i en0).s && relB terms (sameE E) (E.getD i en0).a (E.getD i en0).b) with _ | i
  · have := List.find?_eq_none.1 hf i0 (List.mem_range.2 (aidx_lt hi0).1)
    rw [(aidx_lt hi0).2, hr0] at this
    simp at this
  · exact ⟨_, rfl⟩
theorem viol_E3 {terms : List Tm} {E : List En} {c : List Int} (h : violF (frmE terms E) (E.map fun e => e.s) = some c) : ((c.map Int.natAbs).Nodup ∧ ∀ l ∈ c, l ≠ 0 ∧ l.natAbs ≤ E.length) ∧ ∀ l ∈ c, -l ∈ placesE E := by
  rw [viol_at] at h
  rcases hf : (List.range E.length).find? (fun i => !(E.getD i en0).s && relB terms (sameE E) (E.getD i en0).a (E.getD i en0).b) with _ | i
  · rw [hf] at h; cases h
  · have hp := List.find?_some hf
    rw [Bool.and_eq_true] at hp
    have hia : i ∈ aidx E := List.mem_filter.2 ⟨List.mem_of_find?_eq_some hf, hp.1⟩
    rw [hf, Option.map_some] at h
    injection h with h
    have hK : (whyF terms (sameE E) (pairAt (atomsE E) i).1 (pairAt (atomsE E) i).2 (sameE E).length (List.range (sameE E).length)).Sublist (List.range (sidx E).length) := by
      have := why_sub (terms := terms) (same := sameE E) (a := (pairAt (atomsE E) i).1) (b := (pairAt (atomsE E) i).2) (sameE E).length (List.range (sameE E).length)
      have e : (sameE E).length = (sidx E).length := by rw [sameE_idx, List.length_map]
      rw [e] at this ⊢
      exact this
    exact clause_E hK hia (by rw [h])
theorem pick_all (same : List (Int × Int)) : pickP same (List.range same.length) = same := (list_range same (0, 0)).symm
/-- The judge takes what close tells. -/
theorem judge_E (terms : List Tm) (E : List En) {i : Nat} (hi : i ∈ aidx E) (hr : relB terms (sameE E) (E.getD i en0).a (E.getD i en0).b = true) : takeJ (frmE terms E) [⟨3, negsE E (whyF terms (sameE E) (E.getD i en0).a (E.getD i en0).b (sameE E).length (List.range (sameE E).length)) ++ [((i + 1 : Nat) : Int)]⟩, ⟨1, []⟩] = true := by
  have e : (sameE E).length = (sidx E).length := by rw [sameE_idx, List.length_map]
  have hW := why_rel (terms := terms) (same := sameE E) (a := (E.getD i en0).a) (b := (E.getD i en0).b) (sameE E).length (List.range (sameE E).length) (by rw [pick_all]; exact hr)
  have hK := why_sub (terms := terms) (same := sameE E) (a := (E.getD i en0).a) (b := (E.getD i en0).b) (sameE E).length (List.range (sameE E).length)
  generalize whyF terms (sameE E) (E.getD i en0).a (E.getD i en0).b (sameE E).length (List.range (sameE E).length) = K at hW hK
  rw [e] at hK
  have hp : (negsE E K ++ [((i + 1 : Nat) : Int)]).Perm (((i + 1 : Nat) : Int) :: negsE E K) := List.perm_append_singleton _ _
  obtain ⟨k1, k2⟩ := clause_E hK hi hp
  have hat : ∀ j, j < E.length → ∀ l : Int, l.natAbs = j + 1 → atomOf (atomsE E) l = ⟨2, (E.getD j en0).a, (E.getD j en0).b⟩ := fun j hj l hl => by
    unfold atomOf
    rw [hl, Nat.add_sub_cancel, atomsE_at hj]
  have hpairs : negPairs (atomsE E) (negsE E K ++ [((i + 1 : Nat) : Int)]) = pickP (sameE E) K := by
    unfold negPairs pickP
    rw [List.filter_append]
    have e1 : (negsE E K).filter (fun l => decide (l < 0)) = negsE E K := List.filter_eq_self.2 fun l hl => by
      obtain ⟨j, _, rfl⟩ := negs_mem hK hl
      exact decide_eq_true (by omega)
    have e2 : ([((i + 1 : Nat) : Int)] : List Int).filter (fun l => decide (l < 0)) = [] := by
      rw [List.filter_eq_nil_iff]
      intro l hl
      rw [List.mem_singleton.1 hl]
      simp; omega
    rw [e1, e2, List.append_nil]
    unfold negsE
    rw [List.map_map]
    refine List.map_congr_left fun k hk => ?_
    have hk := List.mem_range.1 (hK.subset hk)
    simp only [Function.comp]
    rw [hat _ (idx_lt (sidx_at hk)).1 _ (by omega), sameE_idx]
    have e3 : (sidx E).getD k 0 = (sidx E)[k] := by rw [List.getD_eq_getElem?_getD, List.getElem?_eq_getElem hk]; rfl
    have e4 : ((sidx E).map fun i => prE (E.getD i en0)).getD k (0, 0) = prE (E.getD (sidx E)[k] en0) := by rw [List.getD_eq_getElem?_getD, List.getElem?_map, List.getElem?_eq_getElem hk]; rfl
    rw [e3, e4]
    rfl
  have hs : sameJ (frmE terms E) (negsE E K ++ [((i + 1 : Nat) : Int)]) = true := by
    unfold sameJ
    rw [Bool.and_eq_true]
    refine ⟨List.all_eq_true.2 fun l hl => ?_, List.any_eq_true.2 ⟨((i + 1 : Nat) : Int), by simp, ?_⟩⟩
    · have h1 := k1.2 l hl
      have : atomOf (frmE terms E).atoms l = ⟨2, (E.getD (l.natAbs - 1) en0).a, (E.getD (l.natAbs - 1) en0).b⟩ := hat (l.natAbs - 1) (by omega) l (by omega)
      rw [this]
      rfl
    · unfold posEq
      have : atomOf (frmE terms E).atoms ((i + 1 : Nat) : Int) = ⟨2, (E.getD i en0).a, (E.getD i en0).b⟩ := hat i (aidx_lt hi).1 _ (by omega)
      rw [this, show (frmE terms E).atoms = atomsE E from rfl, hpairs, show (frmE terms E).terms = terms from rfl]
      rw [Bool.and_eq_true]
      refine ⟨decide_eq_true (by omega), hW⟩
  generalize negsE E K ++ [((i + 1 : Nat) : Int)] = c at *
  have hX : ClsOK E.length [c] := fun d hd => by rw [List.mem_singleton.1 hd]; exact k1
  have hb := run_bad hX (List.mem_singleton.2 rfl) k2
  have hf : fallsF (frmE terms E).atoms.length ((frmE terms E).cls ++ [c]) [] = true := by
    unfold fallsF
    rw [show (frmE terms E).atoms.length = E.length from atomsE_len E]
    exact decide_eq_true hb
  unfold takeJ
  refine decide_eq_true ?_
  unfold whyJ
  rw [if_pos (by unfold stepJ; rw [if_neg (show ¬ (3 : Int) = 1 by decide)]; exact hs)]
  unfold whyJ
  rw [if_pos (by unfold stepJ; rw [if_pos rfl]; exact hf)]
  unfold whyJ
  rw [if_pos (by simp)]
end Sv
end Go.Proofs.YtnndmdfjdodiiaaGreat
