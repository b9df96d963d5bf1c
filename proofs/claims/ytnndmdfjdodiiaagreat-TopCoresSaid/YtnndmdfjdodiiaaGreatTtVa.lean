/- Package slices: Index, Contains, Clone, DeleteFunc of ints. -/
import Derived.Test.YtnndmdfjdodiiaaGreatTtSa
import Derived.Lib.SliceRun
namespace Go.Proofs.YtnndmdfjdodiiaaGreat
open Go.ChangeShapes Go.WideShapes Go.RowKit Go.Maps
set_option linter.unusedVariables false
set_option linter.unusedSimpArgs false
set_option maxRecDepth 100000 in
/-- Where a literal stands, or -1. -/
theorem vIndex_any (w : World) (v : Value) (l : List Int) (x : Int) (h : IsInts w v l) : Calls Tryz.prog 116 #[v, .int .i64 x] w fun e w' => e = .returned (.int .i64 (if x ∈ l then (l.idxOf x : Int) else -1)) ∧ Keep NoS w w' := by
  have HX := Lib.hid h
  obtain ⟨oa, ca, rfl, hml⟩ := h.len
  unfold maxLen at hml
  generalize hr : (if x ∈ l then (l.idxOf x : Int) else -1) = r
  have HR := Lib.hid hr
  clear h hr
  go_enter Tryz.func116, Tryz.ntmps116
  go_wp2
  go_loopw [8] (fun s wr => ∃ k : Nat, k ≤ l.length ∧ s = .int .i64 k ∧ Keep NoS w wr ∧ x ∉ l.take k) (fun s _ => (l.length - intOf s).toNat)
  case atStart => exact ⟨0, by omega, rfl, by (repeat' (with_reducible first | assumption | exact HK.out | exact keR | refine keA ?_ | refine keS ?_ fun h => absurd h (by omega) | refine keN ?_ | refine keD ?_)), by simp⟩
  case round =>
    obtain ⟨k, hk, rfl, hkr, hnot⟩ := hrel
    have KR := Lib.hid hkr
    have HN := Lib.hid hnot
    clear hkr hnot
    by_cases hkl : k < l.length
    case neg =>
      have hlt : ¬ (k : Int) < (l.length : Int) := by omega
      have HNM : Hid (x ∉ l) := Lib.hid (by have := HN.out; rwa [List.take_of_length_le (by omega)] at this)
      clear HN
      go_wp2
      refine bodyPost_ret (by simp [results, Tryz.results116, go_sem]; rfl) rfl ?_
      exact ⟨by rw [← HR.out, if_neg HNM.out], KR.out⟩
    case pos =>
      have hlt : (k : Int) < (l.length : Int) := by omega
      obtain ⟨b, o, cap, hv, hb, p0⟩ := HX.out.at hkl
      injection hv with q1 q2 q3
      clear q2
      subst q1
      subst q3
      have p0 := (KR.out.cell hb).trans p0
      have hbr := Nat.lt_of_lt_of_le hb KR.out.size
      have HM : Hid (l[k] ∈ l) := Lib.hid (List.getElem_mem hkl)
      have HD : Hid (x = l[k] → r = (k : Int)) := Lib.hid (fun e => by
        rw [← HR.out, if_pos (e ▸ HM.out)]
        congr 1
        have hs : l = l.take k ++ l[k] :: l.drop (k + 1) := by rw [← List.drop_eq_getElem_cons hkl, List.take_append_drop]
        rw [e] at HN ⊢
        generalize l[k] = y at *
        rw [hs, List.idxOf_append, if_neg HN.out, List.idxOf_cons_self, List.length_take]
        omega)
      have HS : Hid (x ≠ l[k] → x ∉ l.take (k + 1)) := Lib.hid (fun hne => by
        rw [List.take_succ_eq_append_getElem hkl, List.mem_append]
        rintro (h | h)
        · exact HN.out h
        · exact hne (by simpa using h))
      generalize l[k] = y at *
      clear HN
      by_cases hxy : x = y
      case pos =>
        have HD := Lib.hid (HD.out hxy)
        subst hxy
        go_wp2
        refine bodyPost_ret (by simp [results, Tryz.results116, go_sem]; rfl) rfl ?_
        exact ⟨by simp [HD.out], KR.out⟩
      case neg =>
        have e1 : (x == y) = false := by rw [beq_eq_false_iff_ne]; exact hxy
        have HS := Lib.hid (HS.out hxy)
        clear hxy HM HD
        go_wp2
        go_roundw
        case rel => exact ⟨k + 1, by omega, by go_num, KR.out, HS.out⟩
        case measure => simp [intOf]; omega
theorem vContains_any (w : World) (v : Value) (l : List Int) (x : Int) (h : IsInts w v l) : Calls Tryz.prog 111 #[v, .int .i64 x] w fun e w' => e = .returned (.bool (decide (x ∈ l))) ∧ Keep NoS w w' := by
  have CI := fun w' (k : Keep NoS w w') => Lib.hid (vIndex_any w' v l x (h.keep k))
  obtain ⟨oa, ca, rfl, _⟩ := h.len
  have HE : Hid (decide (0 ≤ (if x ∈ l then (l.idxOf x : Int) else -1)) = decide (x ∈ l)) := Lib.hid (decide_eq_decide.2 (by split <;> simp_all))
  generalize (if x ∈ l then (l.idxOf x : Int) else -1) = z at *
  clear h
  go_enter Tryz.func111, Tryz.ntmps111
  go_wp2_with fail
  refine (CI _ (by (repeat' (with_reducible first | assumption | exact HK.out | exact keR | refine keA ?_ | refine keS ?_ fun h => absurd h (by omega) | refine keN ?_ | refine keD ?_)))).out.mono ?_
  rintro e w1 ⟨rfl, hk⟩
  have K1 : Hid (Keep NoS w w1) := Lib.hid (Keep.both (by (repeat' (with_reducible first | assumption | exact HK.out | exact keR | refine keA ?_ | refine keS ?_ fun h => absurd h (by omega) | refine keN ?_ | refine keD ?_))) hk)
  clear hk CI
  go_wp2
  refine bodyPost_ret (by simp [results, Tryz.results111, go_sem]; rfl) rfl ?_
  exact ⟨by rw [← HE.out], K1.out⟩
theorem OwnI.setV {w : World} {base b c n : Nat} {xs : List Int} (h : OwnI w base (.slice (some ⟨b, 0, none⟩) n c) xs) {i : Nat} (hi : i < xs.length) (x : Int) : OwnI (w.setCell ⟨b, i, none⟩ (.int .i64 x)) base (.slice (some ⟨b, 0, none⟩) n c) (xs.set i x) := by
  obtain ⟨hl, h | ⟨g, cap, cur, hv, hb, hg, hl', hm, hs, ht⟩⟩ := h
  · cases h.1
  · injection hv with q1 q2 q3
    cases q1
    refine ⟨?_, .inr ⟨b, cap, cur.setIfInBounds i (.int .i64 x), by rw [List.length_set, q2, q3], hb, heap_setCell_same _ _ hg, by rw [List.length_set]; exact hl', hm, by rw [Array.size_setIfInBounds]; exact hs, ?_⟩⟩
    · simp [iv]
    · rw [Array.toList_setIfInBounds, List.take_set, List.length_set, ht]
      simp [iv, List.map_set]
theorem OwnI.cellV {w : World} {base b c n : Nat} {xs : List Int} (h : OwnI w base (.slice (some ⟨b, 0, none⟩) n c) xs) {i : Nat} (hi : i < xs.length) : w.cell? ⟨b, i, none⟩ = some (.int .i64 xs[i]) ∧ w.frozen? ⟨b, i, none⟩ = false ∧ b < w.heap.size ∧ base ≤ b ∧ xs.length ≤ c ∧ c ≤ maxLen := by
  obtain ⟨hl, h | ⟨g, cap, cur, hv, hb, hg, hl', hm, hs, ht⟩⟩ := h
  · cases h.1
  · injection hv with q1 q2 q3
    cases q1
    have hz : cur.toList.take (xs.length * 1) = iv xs := ht
    refine ⟨cell_of_heap hg ?_, ?_, lt_of_heap hg, hb, by rw [q3]; exact hl', by rw [q3]; exact hm⟩
    · have h1 : (iv xs)[i]? = some (.int .i64 xs[i]) := by simp [iv, hi]
      rw [← hz, List.getElem?_take] at h1
      split at h1
      · simpa using h1
      · cases h1
    · simp [World.frozen?, hg]
theorem OwnI.setsV (b : Nat) : ∀ (m : Nat) {w : World} {base c n : Nat} {xs : List Int} {i : Nat}, OwnI w base (.slice (some ⟨b, 0, none⟩) n c) xs → i + m ≤ xs.length → ∃ ys : List Int, OwnI (w.setCells b i (List.replicate m (.int .i64 0))) base (.slice (some ⟨b, 0, none⟩) n c) ys ∧ ys.length = xs.length ∧ ys.take i = xs.take i ∧ Keep (fun k _ => k = b) w (w.setCells b i (List.replicate m (.int .i64 0)))
  | 0, w, base, c, n, xs, i, h, _ => ⟨xs, h, rfl, rfl, Keep.refl _ _⟩
  | m + 1, w, base, c, n, xs, i, h, hi => by
    obtain ⟨ys, h1, h2, h3, h4⟩ := OwnI.setsV b m (i := i + 1) (h.setV (i := i) (by omega) 0) (by rw [List.length_set]; omega)
    refine ⟨ys, h1, by rw [h2, List.length_set], ?_, ((Keep.refl (fun k _ => k = b) w).setCell (o := i) (.int .i64 0) fun _ => rfl).trans h4 fun _ _ _ h => h⟩
    have h5 := congrArg (List.take i) h3
    rw [List.take_take, List.take_take, Nat.min_eq_left (by omega), List.take_set_of_le (by omega)] at h5
    exact h5
theorem OwnI.cutV {w : World} {base b c n : Nat} {xs : List Int} (h : OwnI w base (.slice (some ⟨b, 0, none⟩) n c) xs) {i : Nat} (hi : i ≤ xs.length) : OwnI w base (.slice (some ⟨b, 0, none⟩) i c) (xs.take i) := by
  obtain ⟨hl, h | ⟨g, cap, cur, hv, hb, hg, hl', hm, hs, ht⟩⟩ := h
  · cases h.1
  · injection hv with q1 q2 q3
    cases q1
    have hli : (xs.take i).length = i := by rw [List.length_take]; omega
    refine ⟨by simp [iv], .inr ⟨b, cap, cur, by rw [hli, q3], hb, hg, by omega, hm, hs, ?_⟩⟩
    have h1 := congrArg (List.take i) ht
    rw [List.take_take, hli, Nat.min_eq_left (by omega)] at *
    simpa [iv, List.map_take] using h1
theorem ints_no {l : List Int} {p : Int → Bool} (h : idxP p l 0 = -1) : l.filter (fun x => !p x) = l := by
  have := idxP_any (p := p) (l := l) (i := 0)
  rw [h] at this
  rw [List.filter_eq_self]
  intro x hx
  have h1 : l.any p = false := by rw [← this]; rfl
  rw [List.any_eq_false] at h1
  simpa using h1 x hx
theorem idxP_cut {p : Int → Bool} : ∀ {l : List Int} {i : Nat}, idxP p l i ≠ -1 → ∃ k, idxP p l i = ((i + k : Nat) : Int) ∧ k < l.length ∧ (l.take (k + 1)).filter (fun x => !p x) = l.take k := by
  intro l
  induction l with
  | nil => intro i h; exact absurd rfl h
  | cons x l ih =>
    intro i h
    by_cases hp : p x = true
    · refine ⟨0, ?_, by simp, by simp [hp]⟩
      have := idxP_out (p := p) (l := x :: l) (k := 0) (i := i) (by simp) hp
      simpa using this
    · have hp : p x = false := by simpa using hp
      have e := idxP_in (p := p) (l := x :: l) (k := 0) (i := i) (by simp) hp
      simp only [List.drop_zero, Nat.zero_add, List.drop_succ_cons] at e
      rw [e] at h ⊢
      obtain ⟨k, h1, h2, h3⟩ := ih h
      refine ⟨k + 1, by rw [h1]; congr 1; omega, by simpa using h2, ?_⟩
      rw [List.take_succ_cons, List.filter_cons, h3]
      simp [hp]
/-- How far DeleteFunc is: the numbers below i are those of the first j that stay. -/
structure DelI (p : Int → Bool) (l c : List Int) (i j : Nat) : Prop where
  lt : i < j
  le : j ≤ l.length
  len : c.length = l.length
  got : c.take i = (l.take j).filter (fun x => !p x)
  rest : c.drop j = l.drop j
theorem DelI.at {p : Int → Bool} {l c : List Int} {i j : Nat} (h : DelI p l c i j) (hj : j < l.length) : ∃ hc : j < c.length, c[j] = l[j] := by
  have hc : j < c.length := by rw [h.len]; exact hj
  refine ⟨hc, ?_⟩
  have h1 : (c.drop j)[0]? = (l.drop j)[0]? := by rw [h.rest]
  rw [List.getElem?_drop, List.getElem?_drop, Nat.add_zero, List.getElem?_eq_getElem hc, List.getElem?_eq_getElem hj] at h1
  exact Option.some.inj h1
theorem DelI.skip {p : Int → Bool} {l c : List Int} {i j : Nat} (h : DelI p l c i j) (hj : j < l.length) (hp : p l[j] = true) : DelI p l c i (j + 1) :=
  ⟨by have := h.lt; omega, hj, h.len, by rw [h.got, List.take_succ_eq_append_getElem hj, List.filter_append]; simp [hp], by rw [← List.tail_drop, ← List.tail_drop, h.rest]⟩
theorem DelI.put {p : Int → Bool} {l c : List Int} {i j : Nat} (h : DelI p l c i j) (hj : j < l.length) (hp : p l[j] = false) : DelI p l (c.set i l[j]) (i + 1) (j + 1) := by
  have hlt := h.lt
  have hcl : i < c.length := by rw [h.len]; omega
  refine ⟨by omega, hj, by rw [List.length_set]; exact h.len, ?_, ?_⟩
  · have e1 : i < (c.set i l[j]).length := by rw [List.length_set]; exact hcl
    rw [List.take_succ_eq_append_getElem e1, List.take_set_of_le (Nat.le_refl _), List.getElem_set_self, h.got, List.take_succ_eq_append_getElem hj, List.filter_append]
    simp [hp]
  · rw [List.drop_set_of_lt (by omega), ← List.tail_drop, ← List.tail_drop, h.rest]
theorem Fr.lift {S : Nat → Prop} {a b c : World} (h : Fr S a b) (k : Fr S b c) : Fr S a c := h.trans k fun _ _ q => q
set_option maxRecDepth 100000 in
set_option maxHeartbeats 8000000 in
theorem delFunc_any (f : Nat) (cp : Array Value) (hcf : ∀ a w, Sem.run Tryz.prog (callFunc f a) w = .ok (.enter f a) w) (p : Int → Bool) (base : Nat) (w : World) (v : Value) (l : List Int) (h : OwnI w base v l) (hx : ∀ x ∈ l, I64 x) (hc : ∀ w', Keep (fun k _ => v.ownBlock = some k) w w' → ∀ x ∈ l, Calls Tryz.prog f (#[.int .i64 x] ++ cp) w' fun e w'' => e = .returned (.bool (p x)) ∧ Keep NoS w' w'') :
    Calls Tryz.prog 35 #[v, .func (.func f) #[] cp] w fun e w' => ∃ v', e = .returned v' ∧ OwnI w' base v' (l.filter fun x => !p x) ∧ v'.ownBlock = v.ownBlock ∧ Keep (fun k _ => v.ownBlock = some k) w w' := by
  have CX := fun w' (k : Keep NoS w w') => Lib.hid (intIndex_any f cp hcf p w' v l ((h.ints hx).keep k) fun w'' k' => hc w'' (k.both k').any)
  have HX := Lib.hid hx
  have HC := Lib.hid hc
  obtain ⟨oa, ca, rfl⟩ := h.len
  have HO := Lib.hid h
  have hml : l.length ≤ maxLen := h.max
  unfold maxLen at hml
  clear h hx hc
  go_enter Tryz.func35, Tryz.ntmps35
  go_wp2_with fail
  refine (CX _ (by (repeat' (with_reducible first | assumption | exact HK.out | exact keR | refine keA ?_ | refine keS ?_ fun h => absurd h (by omega) | refine keN ?_ | refine keD ?_)))).out.mono ?_
  rintro e w1 ⟨rfl, hk1⟩
  have K1 : Hid (Keep NoS w w1) := Lib.hid (Keep.both (by (repeat' (with_reducible first | assumption | exact HK.out | exact keR | refine keA ?_ | refine keS ?_ fun h => absurd h (by omega) | refine keN ?_ | refine keD ?_))) hk1)
  clear hk1 CX
  by_cases hi : idxP p l 0 = -1
  case pos =>
    rw [hi]
    have HF := Lib.hid (ints_no hi)
    clear hi
    go_wp2
    refine bodyPost_ret (by simp [results, Tryz.results35, go_sem]; rfl) rfl ?_
    exact ⟨_, rfl, by rw [HF.out]; exact HO.out.keep K1.out, rfl, K1.out.any⟩
  case neg =>
    obtain ⟨i0, e0, h1, h2⟩ := idxP_cut hi
    rw [Nat.zero_add] at e0
    rw [e0]
    have hne : ((i0 : Int) == -1) = false := by rw [beq_eq_false_iff_ne]; omega
    have HD : Hid (DelI p l l i0 (i0 + 1)) := Lib.hid ⟨by omega, h1, rfl, h2.symm, rfl⟩
    clear hi e0 h2
    obtain ⟨g, ca', hv⟩ : ∃ g ca', (Value.slice oa l.length ca) = .slice (some ⟨g, 0, none⟩) l.length ca' := by
      obtain ⟨hl, h | ⟨g, cap, cur, hv, hb, hg, hl', hm, hs, ht⟩⟩ := HO.out
      · have := h.2; omega
      · exact ⟨g, cap, hv⟩
    injection hv with q1 q2 q3
    clear q2
    subst q1
    subst q3
    have HO1 := Lib.hid (HO.out.keep K1.out)
    generalize hnl : l.length = n at *
    have HNL := Lib.hid hnl
    go_wp2
    go_loopw [5, 6] (fun s t wr => ∃ (i j : Nat) (c : List Int), s = .int .i64 i ∧ t = .int .i64 j ∧ DelI p l c i j ∧ OwnI wr base (.slice (some ⟨g, 0, none⟩) n ca) c ∧ Keep (fun k _ => some g = some k) w wr) (fun _ t _ => (n - intOf t).toNat)
    case atStart => exact ⟨i0, i0 + 1, l, rfl, by go_num, HD.out, HO1.out, K1.out.any⟩
    case round =>
    obtain ⟨i, j, c, rfl, rfl, hd, ho, hfr⟩ := hrel
    have HDR := Lib.hid hd
    have HOR := Lib.hid ho
    have HFR := Lib.hid hfr
    have hij : i < j := hd.lt
    have hjn : j ≤ n := by rw [← HNL.out]; exact hd.le
    have hcl : c.length = n := by rw [← HNL.out]; exact hd.len
    have HCL := Lib.hid hcl
    clear hd ho hfr hcl HD HO1
    by_cases hjl : j < n
    case pos =>
      have hlt : (j : Int) < (n : Int) := by omega
      have hd : decide ((j : Int) < (n : Int)) = true := decide_eq_true hlt
      have hjL : j < l.length := by rw [HNL.out]; exact hjl
      obtain ⟨hjc, hcj⟩ := HDR.out.at hjL
      obtain ⟨p0, pf, hbl, -, -, -⟩ := HOR.out.cellV hjc
      have hic : i < c.length := by omega
      obtain ⟨-, p1, -, -, -, -⟩ := HOR.out.cellV hic
      rw [hcj] at p0
      have CC := Lib.hid (HC.out wr HFR.out l[j] (List.getElem_mem hjL))
      have hS := fun e => HDR.out.skip hjL e
      have hP := fun e => HDR.out.put hjL e
      generalize p l[j] = bq at *
      generalize l[j] = x at *
      cases bq
      · have HN := Lib.hid (hP rfl)
        clear hS hP hcj hjc hjL
        go_wp2_with fail
        refine (CC.out).mono ?_
        rintro e w4 ⟨rfl, hk4⟩
        have HF4 := Lib.hid (HFR.out.trans (S' := NoS) hk4 fun _ _ _ h => h.elim)
        have HO4 := Lib.hid (HOR.out.keep hk4)
        clear hk4 p0 pf hbl p1
        obtain ⟨p1, pf, hbl, -, -, -⟩ := HO4.out.cellV hic
        generalize c[i] = y at *
        have HF5 : Hid (Keep (fun k _ => some g = some k) w (w4.setCell ⟨g, i, none⟩ (.int .i64 x))) := Lib.hid (HF4.out.setCell _ fun _ => rfl)
        have HO5 := Lib.hid (HO4.out.setV hic x)
        go_wp2
        go_roundw
        case rel => exact ⟨i + 1, j + 1, _, by go_num, by go_num, HN.out, HO5.out, HF5.out⟩
        case measure => simp [intOf]; omega
      · have HN := Lib.hid (hS rfl)
        clear hS hP hcj hjc hjL
        go_wp2_with fail
        refine (CC.out).mono ?_
        rintro e w4 ⟨rfl, hk4⟩
        have HF4 := Lib.hid (HFR.out.trans (S' := NoS) hk4 fun _ _ _ h => h.elim)
        have HO4 := Lib.hid (HOR.out.keep hk4)
        clear hk4 p0 pf hbl p1
        go_wp2
        go_roundw
        case rel => exact ⟨i, j + 1, c, rfl, by go_num, HN.out, HO4.out, HF4.out⟩
        case measure => simp [intOf]; omega
    case neg =>
      have hlt : ¬ (j : Int) < (n : Int) := by omega
      have hd : decide ((j : Int) < (n : Int)) = false := decide_eq_false hlt
      have hnc := HCL.out
      have hic : i < c.length := by omega
      obtain ⟨-, -, hbl, -, hca, hcm⟩ := HOR.out.cellV hic
      have h1 : (0 : Int) ≤ (i : Int) := by omega
      have h2 : (i : Int) ≤ (n : Int) := by omega
      have h3 : (i : Int) ≤ (ca : Int) := by omega
      have hz : ∀ w, (zeroValue TI).run Tryz.prog w = .ok (.int .i64 0) w := fun w => rfl
      have hcr : (Builtin.clear_ #[22] 0 #[.slice (some ⟨g, i, none⟩) (n - i) (ca - i)]).run Tryz.prog wr = .ok (.tuple #[]) (wr.setCells g i (List.replicate (n - i) (.int .i64 0))) :=
        Lib.run_clear_slice wr _ _ 0 _ Tryz.underlying22 hz rfl rfl g i _ _ (by omega) (fun t ht => by rw [(HOR.out.cellV (show i + t < c.length by omega)).1]; rfl) (fun t ht => (HOR.out.cellV (show i + t < c.length by omega)).2.1)
      obtain ⟨ys, ho5, hy1, hy2, hf5⟩ := OwnI.setsV g (n - i) HOR.out (i := i) (by omega)
      have HFE : Hid (ys.take i = l.filter fun x => !p x) := Lib.hid (by
        rw [hy2, HDR.out.got, List.take_of_length_le]
        have := HNL.out
        omega)
      have HO6 := Lib.hid (ho5.cutV (i := i) (by omega))
      have HF6 := Lib.hid (HFR.out.trans hf5 fun _ _ _ h => congrArg some h.symm)
      generalize wr.setCells g i (List.replicate (n - i) (.int .i64 0)) = w5 at *
      clear hz hnc hbl hcm ho5 hy1 hy2 hf5
      go_wp2
      go_ret
      exact ⟨_, rfl, by rw [← HFE.out]; exact HO6.out, rfl, HF6.out⟩
end Go.Proofs.YtnndmdfjdodiiaaGreat
