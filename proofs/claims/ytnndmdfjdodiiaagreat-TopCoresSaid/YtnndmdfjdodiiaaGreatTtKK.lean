/- Package close: how terms, pairs and classes lie; joining two classes. Package close: the closures of Classes. Package close: Classes. -/
import Derived.Test.YtnndmdfjdodiiaaGreatTtJ
import Derived.Test.YtnndmdfjdodiiaaGreatTtPP
namespace Go.Proofs.YtnndmdfjdodiiaaGreat
open Go.ChangeShapes Go.WideShapes Go.RowKit Go.Maps
set_option linter.unusedVariables false
set_option linter.unusedSimpArgs false

/-- Terms, as they lie. -/
def IsTerms (w : World) (v : Value) (l : List Cl.Tm) : Prop :=
  ∃ oa cap, v = .slice oa l.length cap ∧ l.length ≤ cap ∧ cap ≤ maxLen ∧ (l ≠ [] → ∃ b o, oa = some ⟨b, o, none⟩ ∧ b < w.heap.size ∧ ∀ i t, l[i]? = some t → w.cell? ⟨b, o + i * 2, none⟩ = some (.int .i64 t.head) ∧ ∃ sv, w.cell? ⟨b, o + i * 2 + 1, none⟩ = some sv ∧ IsInts w sv t.kids ∧ CapS sv)
theorem IsTerms.len {w : World} {v : Value} {l : List Cl.Tm} (h : IsTerms w v l) : ∃ oa cap, v = .slice oa l.length cap ∧ l.length ≤ cap ∧ cap ≤ maxLen := by
  obtain ⟨oa, cap, h1, h2, h3, _⟩ := h
  exact ⟨oa, cap, h1, h2, h3⟩
theorem IsTerms.keep {w w' : World} {v : Value} {l : List Cl.Tm} (h : IsTerms w v l) (k : Keep NoS w w') : IsTerms w' v l := by
  obtain ⟨oa, cap, h1, h2, h3, h4⟩ := h
  refine ⟨oa, cap, h1, h2, h3, fun hne => ?_⟩
  obtain ⟨b, o, e, hb, hc⟩ := h4 hne
  refine ⟨b, o, e, Nat.lt_of_lt_of_le hb k.size, fun i t hi => ?_⟩
  obtain ⟨p0, sv, p1, p2, p3⟩ := hc i t hi
  exact ⟨(k.cell hb).trans p0, sv, (k.cell hb).trans p1, p2.keep k, p3⟩
theorem IsTerms.at {w : World} {oa : Option Addr} {n cap : Nat} {l : List Cl.Tm} (h : IsTerms w (.slice oa n cap) l) {k : Nat} (hk : k < l.length) :
    ∃ b o oc cc, oa = some ⟨b, o, none⟩ ∧ b < w.heap.size ∧ w.cell? ⟨b, o + k * 2, none⟩ = some (.int .i64 l[k].head) ∧ w.cell? ⟨b, o + k * 2 + 1, none⟩ = some (.slice oc l[k].kids.length cc) ∧ IsInts w (.slice oc l[k].kids.length cc) l[k].kids ∧ l[k].kids.length ≤ cc ∧ cc ≤ maxLen := by
  obtain ⟨oa', cap', hv, _, _, h4⟩ := h
  cases hv
  obtain ⟨b, o, e, hb, hc⟩ := h4 (by rintro rfl; simp at hk)
  obtain ⟨h0, sv, h1, h2, o', n', c', e', h3, h4⟩ := hc k l[k] (by simp [hk])
  obtain ⟨oc, cc, rfl, hm⟩ := h2.len
  cases e'
  exact ⟨b, o, _, _, e, hb, h0, h1, h2, h3, h4⟩
/-- Pairs, as they lie. -/
def IsPairs (w : World) (v : Value) (l : List (Int × Int)) : Prop :=
  ∃ oa cap, v = .slice oa l.length cap ∧ l.length ≤ cap ∧ cap ≤ maxLen ∧ (l ≠ [] → ∃ b o, oa = some ⟨b, o, none⟩ ∧ b < w.heap.size ∧ ∀ i p, l[i]? = some p → w.cell? ⟨b, o + i * 2, none⟩ = some (.int .i64 p.1) ∧ w.cell? ⟨b, o + i * 2 + 1, none⟩ = some (.int .i64 p.2))
theorem IsPairs.len {w : World} {v : Value} {l : List (Int × Int)} (h : IsPairs w v l) : ∃ oa cap, v = .slice oa l.length cap ∧ l.length ≤ cap ∧ cap ≤ maxLen := by
  obtain ⟨oa, cap, h1, h2, h3, _⟩ := h
  exact ⟨oa, cap, h1, h2, h3⟩
theorem IsPairs.keep {w w' : World} {v : Value} {l : List (Int × Int)} (h : IsPairs w v l) (k : Keep NoS w w') : IsPairs w' v l := by
  obtain ⟨oa, cap, h1, h2, h3, h4⟩ := h
  refine ⟨oa, cap, h1, h2, h3, fun hne => ?_⟩
  obtain ⟨b, o, e, hb, hc⟩ := h4 hne
  exact ⟨b, o, e, Nat.lt_of_lt_of_le hb k.size, fun i p hi => ⟨(k.cell hb).trans (hc i p hi).1, (k.cell hb).trans (hc i p hi).2⟩⟩
theorem IsPairs.at {w : World} {oa : Option Addr} {n cap : Nat} {l : List (Int × Int)} (h : IsPairs w (.slice oa n cap) l) {k : Nat} (hk : k < l.length) :
    ∃ b o, oa = some ⟨b, o, none⟩ ∧ b < w.heap.size ∧ w.cell? ⟨b, o + k * 2, none⟩ = some (.int .i64 l[k].1) ∧ w.cell? ⟨b, o + k * 2 + 1, none⟩ = some (.int .i64 l[k].2) := by
  obtain ⟨oa', cap', hv, _, _, h4⟩ := h
  cases hv
  obtain ⟨b, o, e, hb, hc⟩ := h4 (by rintro rfl; simp at hk)
  exact ⟨b, o, e, hb, hc k l[k] (by simp [hk])⟩
/-- Classes, as they lie: in a block of their own, behind a cell. -/
structure LCl (w0 w : World) (b g n : Nat) (c : List Int) : Prop where
  k : Keep NoS w0 w
  hb : w0.heap.size ≤ b
  hg : w0.heap.size ≤ g
  bb : w.heap[b]? = some (.cells #[.slice (some ⟨g, 0, none⟩) n n] 22 (0, 0))
  gg : w.heap[g]? = some (.cells (iv c).toArray TI (0, 0))
  ok : Cl.ClOK n c
  n64 : n ≤ 1000
theorem LCl.keep {w0 w w' : World} {b g n : Nat} {c : List Int} (h : LCl w0 w b g n c) (k : Keep NoS w w') : LCl w0 w' b g n c :=
  ⟨h.k.both k, h.hb, h.hg, (k.block b (lt_of_heap h.bb) fun _ h => h).trans h.bb, (k.block g (lt_of_heap h.gg) fun _ h => h).trans h.gg, h.ok, h.n64⟩
theorem LCl.ne {w0 w : World} {b g n : Nat} {c : List Int} (h : LCl w0 w b g n c) : b ≠ g := by
  rintro rfl
  have := h.bb
  rw [h.gg] at this
  injection this with this
  injection this with _ this
  exact absurd this (by decide)
theorem LCl.cell {w0 w : World} {b g n : Nat} {c : List Int} (h : LCl w0 w b g n c) {i : Nat} (hi : i < c.length) : w.cell? ⟨g, i, none⟩ = some (.int .i64 c[i]) ∧ w.frozen? ⟨g, i, none⟩ = false := by
  refine ⟨cell_of_heap h.gg ?_, Blk.free (A := _) ⟨_, h.gg⟩ i⟩
  rw [List.getElem?_toArray, iv_get, List.getElem?_eq_getElem hi]; rfl
theorem LCl.clAt {w0 w : World} {b g n : Nat} {c : List Int} (h : LCl w0 w b g n c) {i : Nat} (hi : i < n) : w.cell? ⟨g, i, none⟩ = some (.int .i64 (Cl.clAt c (i : Int))) := by
  have hl : i < c.length := by rw [h.ok.len]; exact hi
  rw [(h.cell hl).1]
  unfold Cl.clAt
  rw [Int.toNat_natCast, List.getD_eq_getElem?_getD, List.getElem?_eq_getElem hl]; rfl
theorem LCl.set {w0 w : World} {b g n : Nat} {c : List Int} (h : LCl w0 w b g n c) {i : Nat} {z : Int} (hz : 0 ≤ z ∧ z < (n : Int)) : LCl w0 (w.setCell ⟨g, i, none⟩ (.int .i64 z)) b g n (c.set i z) := by
  refine ⟨keep_at h.k _ h.hg, h.hb, h.hg, ?_, ?_, ⟨by rw [List.length_set]; exact h.ok.len, fun y hy => ?_⟩, h.n64⟩
  · rw [heap_setCell_other _ _ _ _ h.ne]; exact h.bb
  · rw [heap_setCell_same _ _ h.gg]
    have : (iv c).toArray.setIfInBounds i (.int .i64 z) = (iv (c.set i z)).toArray := by
      rw [List.setIfInBounds_toArray]
      unfold iv
      rw [List.map_set]
    rw [this]
  · rcases List.mem_or_eq_of_mem_set hy with q | rfl
    · exact h.ok.rg y q
    · exact hz
end Go.Proofs.YtnndmdfjdodiiaaGreat

namespace Go.Proofs.YtnndmdfjdodiiaaGreat
open Go.ChangeShapes Go.WideShapes Go.RowKit Go.Maps
set_option linter.unusedVariables false
set_option linter.unusedSimpArgs false

set_option maxRecDepth 100000 in
theorem cls2_any (w0 w : World) (b g n : Nat) (c : List Int) (h : LCl w0 w b g n c) (i j : Nat) (hi : i < n) (hj : j < n) :
    Calls Tryz.prog 45 #[.int .i64 (i : Int), .int .i64 (j : Int), .pointer (some ⟨b, 0, none⟩)] w fun e w' => e = .returned (.bool (decide (Cl.clAt c i = Cl.clAt c j))) ∧ ∃ z, w' = w.drewN z := by
  have x0 := cell_of_heap (o := 0) h.bb rfl
  have xl := lt_of_heap h.bb
  have p1 := h.clAt hi
  have p2 := h.clAt hj
  have gl := lt_of_heap h.gg
  have i1 : (i : Int) < (n : Int) := by omega
  have j1 : (j : Int) < (n : Int) := by omega
  generalize Cl.clAt c i = x at *
  generalize Cl.clAt c j = y at *
  clear h
  go_enter Tryz.func45, Tryz.ntmps45
  go_wp2
  go_quiet (fail)
  go_wp2
  go_ret
  exact ⟨congrArg (fun b : Bool => Ending.returned (.bool b)) (by rw [Bool.eq_iff_iff]; simp), _, rfl⟩
theorem cfc2 (a : Array Value) (w : World) : Sem.run Tryz.prog (callFunc 45 a) w = .ok (.enter 45 a) w := by kernel_rfl
/-- Classes, of which the first k are joined. -/
def partJ (c : List Int) (m z : Int) (k : Nat) : List Int := (c.take k).map (fun y => if y = m then z else y) ++ c.drop k
theorem partJ_at {c : List Int} {m z : Int} {k : Nat} (hk : k < c.length) : (partJ c m z k)[k]? = some c[k] := by
  unfold partJ
  rw [List.getElem?_append_right (by rw [List.length_map, List.length_take]; omega), List.length_map, List.length_take, show k - min k c.length = 0 by omega, List.getElem?_drop, Nat.add_zero, List.getElem?_eq_getElem hk]
theorem partJ_set {c : List Int} {m z : Int} {k : Nat} (hk : k < c.length) (h : c[k] = m) : (partJ c m z k).set k z = partJ c m z (k + 1) := by
  unfold partJ
  rw [List.set_append_right _ _ (by rw [List.length_map, List.length_take]; omega), List.length_map, List.length_take, show k - min k c.length = 0 by omega, List.drop_eq_getElem_cons hk, List.set_cons_zero, List.take_succ_eq_append_getElem hk, List.map_append, List.append_assoc]
  simp [h]
theorem partJ_skip {c : List Int} {m z : Int} {k : Nat} (hk : k < c.length) (h : c[k] ≠ m) : partJ c m z k = partJ c m z (k + 1) := by
  unfold partJ
  rw [List.drop_eq_getElem_cons hk, List.take_succ_eq_append_getElem hk, List.map_append, List.append_assoc]
  simp [h]
theorem partJ_len (c : List Int) (m z : Int) (k : Nat) : (partJ c m z k).length = c.length := by
  unfold partJ
  rw [List.length_append, List.length_map, List.length_take, List.length_drop]; omega
set_option maxRecDepth 100000 in
set_option maxHeartbeats 8000000 in
theorem cls1_any (w0 w : World) (b g n : Nat) (c : List Int) (h : LCl w0 w b g n c) (i j : Nat) (hi : i < n) (hj : j < n) :
    Calls Tryz.prog 43 #[.int .i64 (i : Int), .int .i64 (j : Int), .pointer (some ⟨b, 0, none⟩)] w fun e w' => e = .returned (.bool (decide (Cl.clAt c i ≠ Cl.clAt c j))) ∧ LCl w0 w' b g n (Cl.joinF c i j) ∧ Fr (fun k => k = g) w w' := by
  have H := Lib.hid h
  have x0 := cell_of_heap (o := 0) h.bb rfl
  have xl := lt_of_heap h.bb
  have p1 := h.clAt hi
  have p2 := h.clAt hj
  have gl := lt_of_heap h.gg
  have i1 : (i : Int) < (n : Int) := by omega
  have j1 : (j : Int) < (n : Int) := by omega
  have r1 := h.ok.at (a := (i : Int)) (by omega) i1
  have r2 := h.ok.at (a := (j : Int)) (by omega) j1
  have hn := h.n64
  have HJ : Hid (Cl.joinF c i j = partJ c (max (Cl.clAt c i) (Cl.clAt c j)) (min (Cl.clAt c i) (Cl.clAt c j)) n) := Lib.hid (by
    unfold partJ Cl.joinF
    rw [List.take_of_length_le (by rw [h.ok.len]; omega), List.drop_eq_nil_of_le (by rw [h.ok.len]; omega), List.append_nil])
  rw [HJ.out]
  have x1 := r1.1
  have x2 := r1.2.1
  have y1 := r2.1
  have y2 := r2.2.1
  generalize Cl.clAt c i = x at *
  generalize Cl.clAt c j = y at *
  clear h r1 r2 HJ
  go_enter Tryz.func43, Tryz.ntmps43
  go_wp2
  go_quiet (fail)
  generalize hw1 : w.drewN nq = w1
  have HF0 : Hid (Fr (fun k => k = g) w w1) := Lib.hid (by rw [← hw1]; exact Fr.of (Keep.drewN (Keep.refl _ _) _))
  have HL1 : Hid (LCl w0 w1 b g n c) := Lib.hid (by rw [← hw1]; exact H.out.keep (Keep.drewN (Keep.refl _ _) _))
  have x0 := cell_of_heap (o := 0) HL1.out.bb rfl
  have xl := lt_of_heap HL1.out.bb
  clear p1 p2 hw1 H gl
  go_wp2
  go_loopw [18] (fun s wr => ∃ k : Nat, k ≤ n ∧ s = .int .i64 k ∧ LCl w0 wr b g n (partJ c (max x y) (min x y) k) ∧ Fr (fun k => k = g) w wr) (fun s _ => (n - intOf s).toNat)
  case atStart => exact ⟨0, by omega, rfl, by simpa [partJ] using HL1.out, HF0.out⟩
  case round =>
  obtain ⟨k, hk, rfl, hl, hf⟩ := hrel
  have HL := Lib.hid hl
  have HF := Lib.hid hf
  clear hl hf
  by_cases hkl : k < n
  case neg =>
    have hlt : ¬ (k : Int) < (n : Int) := by omega
    obtain rfl : n = k := by omega
    go_wp2
    go_ret
    exact ⟨congrArg (fun b : Bool => Ending.returned (.bool b)) (by rw [Bool.eq_iff_iff]; simp), HL.out, HF.out⟩
  case pos =>
  have hlt : (k : Int) < (n : Int) := by omega
  have hkc : k < c.length := by have := HL1.out.ok.len; omega
  have x0 := cell_of_heap (o := 0) HL.out.bb rfl
  have xl := lt_of_heap HL.out.bb
  have gl := lt_of_heap HL.out.gg
  obtain ⟨p0, f0⟩ := HL.out.cell (i := k) (by rw [partJ_len]; exact hkc)
  have e0 : (partJ c (max x y) (min x y) k)[k]'(by rw [partJ_len]; exact hkc) = c[k] := by
    have := partJ_at (m := max x y) (z := min x y) hkc
    rw [List.getElem?_eq_getElem (by rw [partJ_len]; exact hkc)] at this
    exact Option.some.inj this
  rw [e0] at p0
  have HS := Lib.hid (fun h => partJ_set (m := max x y) (z := min x y) hkc h)
  have HK := Lib.hid (fun h => partJ_skip (m := max x y) (z := min x y) hkc h)
  generalize c[k] = z at *
  clear e0
  by_cases hz : z = max x y
  case neg =>
    have e1 : (z == max x y) = false := by rw [beq_eq_false_iff_ne]; exact hz
    have HN : Hid (LCl w0 wr b g n (partJ c (max x y) (min x y) (k + 1))) := Lib.hid (HK.out hz ▸ HL.out)
    clear HS HK
    by_cases hxy : x < y
    · have hm : max x y = y := by omega
      rw [hm] at e1 hz
      clear hm
      go_wp2
      go_roundw
      case rel => exact ⟨k + 1, by omega, by go_num, HN.out, HF.out⟩
      case measure => simp [intOf]; omega
    · have hm : max x y = x := by omega
      rw [hm] at e1 hz
      clear hm
      go_wp2
      go_roundw
      case rel => exact ⟨k + 1, by omega, by go_num, HN.out, HF.out⟩
      case measure => simp [intOf]; omega
  case pos =>
    have HN : Hid (LCl w0 (wr.setCell ⟨g, k, none⟩ (.int .i64 (min x y))) b g n (partJ c (max x y) (min x y) (k + 1))) := Lib.hid (by have := HL.out.set (i := k) (z := min x y) (by omega); rwa [HS.out hz] at this)
    have HF2 : Hid (Fr (fun k => k = g) w (wr.setCell ⟨g, k, none⟩ (.int .i64 (min x y)))) := Lib.hid (HF.out.set _ rfl)
    clear HS HK
    subst hz
    by_cases hxy : x < y
    · have hm : max x y = y := by omega
      have hm2 : min x y = x := by omega
      rw [hm] at p0
      rw [hm, hm2] at HN
      rw [hm2] at HF2
      clear hm hm2
      go_wp2
      go_roundw
      case rel => exact ⟨k + 1, by omega, by go_num, by rw [show max x y = y by omega, show min x y = x by omega]; exact HN.out, HF2.out⟩
      case measure => simp [intOf]; omega
    · have hm : max x y = x := by omega
      have hm2 : min x y = y := by omega
      rw [hm] at p0
      rw [hm, hm2] at HN
      rw [hm2] at HF2
      clear hm hm2
      go_wp2
      go_roundw
      case rel => exact ⟨k + 1, by omega, by go_num, by rw [show max x y = x by omega, show min x y = y by omega, show (if y < x then y else x) = y from by split <;> omega]; exact HN.out, by rw [show (if y < x then y else x) = y from by split <;> omega]; exact HF2.out⟩
      case measure => simp [intOf]; omega
end Go.Proofs.YtnndmdfjdodiiaaGreat

namespace Go.Proofs.YtnndmdfjdodiiaaGreat
open Go.ChangeShapes Go.WideShapes Go.RowKit Go.Maps
set_option linter.unusedVariables false
set_option linter.unusedSimpArgs false

set_option maxRecDepth 100000 in
set_option maxHeartbeats 8000000 in
theorem eqFuncQ_any (f : Nat) (cp : Array Value) (hcf : ∀ a w, Sem.run Tryz.prog (callFunc f a) w = .ok (.enter f a) w) (q : Int → Int → Bool) (w : World) (v u : Value) (l m : List Int) (h : IsInts w v l) (h' : IsInts w u m) (hc : ∀ z, ∀ x ∈ l, ∀ y ∈ m, Calls Tryz.prog f (#[.int .i64 x, .int .i64 y] ++ cp) (w.drewN z) fun e w'' => e = .returned (.bool (q x y)) ∧ ∃ z', w'' = w.drewN z') :
    Calls Tryz.prog 44 #[v, u, .func (.func f) #[] cp] w fun e w' => e = .returned (.bool (decide (l.length = m.length) && (List.zip l m).all fun p => q p.1 p.2)) ∧ ∃ z, w' = w.drewN z := by
  have HL := Lib.hid h
  have HM := Lib.hid h'
  have HC := Lib.hid hc
  obtain ⟨oa, ca, rfl, hma⟩ := h.len
  obtain ⟨ob, cb, rfl, _⟩ := h'.len
  unfold maxLen at hma
  obtain ⟨n, hn⟩ : ∃ n, l.length = n := ⟨_, rfl⟩
  obtain ⟨n', hn'⟩ : ∃ n, m.length = n := ⟨_, rfl⟩
  have HN := Lib.hid hn
  have HN' := Lib.hid hn'
  rw [hn] at HL hma ⊢
  rw [hn'] at HM ⊢
  clear h h' hc hn hn'
  by_cases hln : n = n'
  case neg =>
    have e1 : ((n : Int) != (n' : Int)) = true := by rw [bne_iff_ne]; omega
    rw [decide_eq_false hln, Bool.false_and]
    clear hln HL HM
    go_enter Tryz.func44, Tryz.ntmps44
    go_wp2
    go_ret
    exact ⟨rfl, 0, rfl⟩
  case pos =>
  subst hln
  rw [decide_eq_true rfl, Bool.true_and]
  go_enter Tryz.func44, Tryz.ntmps44
  go_wp2
  go_loopw [17] (fun s wr => ∃ k : Nat, k ≤ n ∧ s = .int .i64 k ∧ (∃ z, wr = w.drewN z) ∧ ((List.zip l m).all fun p => q p.1 p.2) = ((List.zip (l.drop k) (m.drop k)).all fun p => q p.1 p.2)) (fun s _ => (n - intOf s).toNat)
  case atStart => exact ⟨0, by omega, rfl, ⟨0, rfl⟩, rfl⟩
  case round =>
    obtain ⟨k, hk, rfl, ⟨z0, hwr⟩, hz⟩ := hrel
    have HZ := Lib.hid hz
    clear hz
    subst hwr
    have KR : Hid (Keep NoS w (w.drewN z0)) := Lib.hid (Keep.drewN (Keep.refl _ _) _)
    by_cases hkl : k < n
    case neg =>
      have hlt : ¬ (k : Int) < (n : Int) := by omega
      have HF : Hid (((List.zip l m).all fun p => q p.1 p.2) = true) := Lib.hid (HZ.out.trans (by rw [List.drop_eq_nil_of_le (by rw [HN.out]; omega)]; rfl))
      clear HZ
      go_wp2
      go_ret
      exact ⟨by rw [HF.out]; rfl, z0, rfl⟩
    case pos =>
      have hlt : (k : Int) < (n : Int) := by omega
      have hk1 : k < l.length := by rw [HN.out]; exact hkl
      have hk2 : k < m.length := by rw [HN'.out]; exact hkl
      have HI := Lib.hid (HZ.out.trans (all_in hk1 hk2))
      obtain ⟨b1, o1, cap1, hv1, hb1, p1⟩ := (HL.out.keep KR.out).at hk1
      injection hv1 with q1 q2 q3
      clear q2
      subst q1
      subst q3
      obtain ⟨b2, o2, cap2, hv2, hb2, p2⟩ := (HM.out.keep KR.out).at hk2
      injection hv2 with q1 q2 q3
      clear q2
      subst q1
      subst q3
      have CC := Lib.hid (HC.out z0 l[k] (List.getElem_mem hk1) m[k] (List.getElem_mem hk2))
      generalize q l[k] m[k] = bq at *
      generalize l[k] = x at *
      generalize m[k] = y at *
      clear HZ
      cases bq
      · have HNX := Lib.hid (HI.out.trans (Bool.false_and _))
        clear HI
        go_wp2_with fail
        refine (CC.out).mono ?_
        rintro e w4 ⟨rfl, z4, rfl⟩
        go_wp2
        go_ret
        exact ⟨by rw [HNX.out]; rfl, z4, rfl⟩
      · have HNX := Lib.hid (HI.out.trans (Bool.true_and _))
        clear HI
        go_wp2_with fail
        refine (CC.out).mono ?_
        rintro e w4 ⟨rfl, z4, rfl⟩
        go_wp2
        go_roundw
        case rel => exact ⟨k + 1, by omega, by go_num, ⟨z4, rfl⟩, HNX.out⟩
        case measure => simp [intOf]; omega

theorem made_intsT (n : Nat) : (madeCells (Value.int .i64 0).cells (n * 1)).toList = List.replicate n (Value.int .i64 0) := by
  apply List.ext_getElem?
  intro i
  by_cases hi : i < n
  · have hm : i % 1 = 0 := Nat.mod_one i
    simp [madeCells, Value.cells, hi, hm]
  · rw [List.getElem?_eq_none (by simp [madeCells]; omega), List.getElem?_eq_none (by simp; omega)]
theorem make_cells (w : World) (n : Nat) (hn : n ≤ 1000000) : ∃ w', (Instr.makeSlice 22 (.int .i64 (n : Int)) (.int .i64 (n : Int))).run Tryz.prog w = .ok (.slice (some ⟨w.heap.size, 0, none⟩) n n) w' ∧ w'.heap[w.heap.size]? = some (.cells (iv (List.replicate n 0)).toArray TI (0, 0)) ∧ Keep NoS w w' := by
  obtain ⟨i0, hi0, hz0, hz1, hz2⟩ := info_parts infoI
  obtain ⟨w', hr, ho, hg⟩ := run_make_full (P := Tryz.prog) w w.heap.size 22 TI i0 (.int .i64 0) 1 Tryz.underlying22 hi0 hz0 hz1 .i64 .i64 n (by rw [hz2]; omega) (by unfold maxLen; omega) (Nat.le_refl _)
  refine ⟨w', hr, ?_, Keep.of_below (grown_keep hg w.heap.size (Nat.le_refl _) (by simp)) (Nat.le_refl _)⟩
  have e : iv (List.replicate n 0) = List.replicate n (Value.int .i64 0) := by simp [iv]
  rw [e, ← made_intsT]
  obtain ⟨hl, h | ⟨g, cap, cur, hv, hb, hgg, hl', hm, hs, ht⟩⟩ := ho
  · cases h.1
  · cases hv
    have e2 : cur.toList.take (n * 1) = cur.toList := List.take_of_length_le (by rw [Array.length_toList, hs]; omega)
    rw [hgg, ← ht, e2, Array.toArray_toList]
def fillL (n k : Nat) : List Int := (List.range n).map fun i => if i < k then (i : Int) else 0
theorem fill_zero (n : Nat) : fillL n 0 = List.replicate n 0 := by
  unfold fillL
  apply List.ext_getElem?
  intro i
  simp [List.getElem?_replicate]
  by_cases h : i < n <;> simp [h]
theorem fill_set {n k : Nat} (hk : k < n) : (fillL n k).set k (k : Int) = fillL n (k + 1) := by
  unfold fillL
  apply List.ext_getElem?
  intro i
  rw [List.getElem?_set]
  by_cases h : k = i
  · subst h
    simp [hk]
  · simp only [h, if_false, List.getElem?_map]
    by_cases hi : i < n
    · simp [hi]
      by_cases h2 : i < k
      · rw [if_pos h2, if_pos (by omega)]
      · rw [if_neg h2, if_neg (by omega)]
    · simp [hi]
theorem fill_end (n : Nat) : fillL n n = Cl.startF n := by
  unfold fillL Cl.startF
  apply List.map_congr_left
  intro i hi
  rw [if_pos (List.mem_range.1 hi)]
theorem fill_ok {n k : Nat} : Cl.ClOK n (fillL n k) := ⟨by simp [fillL], fun z hz => by
  unfold fillL at hz
  obtain ⟨i, hi, rfl⟩ := List.mem_map.1 hz
  have := List.mem_range.1 hi
  split <;> omega⟩
/-- What terms and pairs are well formed. -/
structure TmOK (terms : List Cl.Tm) : Prop where
  n : terms.length ≤ 60
  k : ∀ t ∈ terms, ∀ x ∈ t.kids, 0 ≤ x ∧ x < (terms.length : Int)
def PrOK (n : Nat) (pairs : List (Int × Int)) : Prop := ∀ p ∈ pairs, (0 ≤ p.1 ∧ p.1 < (n : Int)) ∧ 0 ≤ p.2 ∧ p.2 < (n : Int)
theorem joinAll_take {c : List Int} {pairs : List (Int × Int)} {k : Nat} (hk : k < pairs.length) : Cl.joinAll c (pairs.take (k + 1)) = Cl.joinF (Cl.joinAll c (pairs.take k)) (pairs[k]).1 (pairs[k]).2 := by
  unfold Cl.joinAll
  rw [List.take_succ_eq_append_getElem hk, List.foldl_append]; rfl
theorem inL_at {t : Cl.Tm} {i : Nat} {us : List Cl.Tm} {k : Nat} {r : List Int × Bool} (hk : k < us.length) : Cl.inL t i (us.drop k) k r = Cl.inL t i (us.drop (k + 1)) (k + 1) (if Cl.inB r.1 t us[k] i k then (Cl.joinF r.1 i k, true) else r) := by
  rw [List.drop_eq_getElem_cons hk]; rfl
theorem outL_at {terms ts : List Cl.Tm} {i : Nat} {r : List Int × Bool} (hi : i < ts.length) : Cl.outL terms (ts.drop i) i r = Cl.outL terms (ts.drop (i + 1)) (i + 1) (Cl.inL ts[i] i (terms.take i) 0 r) := by
  rw [List.drop_eq_getElem_cons hi]; rfl
theorem kids_zip (c l m : List Int) : Cl.kidsB c l m = (decide (l.length = m.length) && (List.zip l m).all fun p => decide (Cl.clAt c p.1 = Cl.clAt c p.2)) := by
  unfold Cl.kidsB
  induction l generalizing m with
  | nil => cases m <;> simp
  | cons x l ih =>
    cases m with
    | nil => simp
    | cons y m =>
      have := ih m
      simp only [List.map_cons, List.zip_cons_cons, List.all_cons, List.length_cons]
      rw [Bool.eq_iff_iff] at this ⊢
      simp at this ⊢
      constructor
      · rintro ⟨h1, h2⟩
        have := this.1 h2
        exact ⟨this.1, h1, this.2⟩
      · rintro ⟨h1, h2, h3⟩
        exact ⟨h2, this.2 ⟨h1, h3⟩⟩
end Go.Proofs.YtnndmdfjdodiiaaGreat
