/- Package solve: round, where the search tells No. -/
import Derived.Test.YtnndmdfjdodiiaaGreatTtSh
namespace Go.Proofs.YtnndmdfjdodiiaaGreat
open Go.ChangeShapes Go.WideShapes Go.RowKit Go.Maps
set_option linter.unusedVariables false
set_option linter.unusedSimpArgs false

set_option maxRecDepth 100000 in
set_option maxHeartbeats 32000000 in
theorem round_no (w0 w : World) (b : Nat) (L : FmL) (f : Sv.Frm) (fuel : Int) (M : SvM) (s : Sv.SvS) (ph : OpO) (st : List (List Int)) (u : Nat) (h : SvL w0 w b L f fuel M s) (hF : IsForm w0 L f) (hok : FmOK f) (hc : s.cls.length ≤ 400) (hs : s.steps.length ≤ 1000) (hss : ∀ x ∈ s.steps, StOK f.atoms.length x) (hfu : (s.used : Int) < fuel ∧ fuel ≤ 2000) (hu : u ≤ 2000) (hst : ∀ c ∈ st, ValidC f.atoms.length c) (hstl : st.length ≤ 1000) 
    (CD : ∀ w' oc cc, IsCls w' (.slice oc s.cls.length cc) s.cls → Calls Tryz.prog 39 #[.agg #[.int .i64 (f.atoms.length : Int), .slice oc s.cls.length cc], .slice none 0 0, .agg #[.int .i64 ph.a, .int .i64 ph.b, .int .i64 ph.c, .int .i64 ph.d], .int .i64 (fuel - (s.used : Int))] w' (AnsP f.atoms.length (.no st u) w')) :
    Calls Tryz.prog 26 #[.pointer (some ⟨b, 0, none⟩), .agg #[.int .i64 ph.a, .int .i64 ph.b, .int .i64 ph.c, .int .i64 ph.d]] w (RdP w0 w b L f fuel (roundF f fuel.toNat s (.no st u))) := by
  have HOK := Lib.hid hok
  have HF := Lib.hid hF
  have HFU := Lib.hid (show (-9223372036854775808 : Int) ≤ fuel - (s.used : Int) ∧ fuel - (s.used : Int) ≤ 9223372036854775807 by omega)
  have HFU2 := Lib.hid hfu
  have HSS := Lib.hid hss
  have HC4 := Lib.hid hc
  have HS1 := Lib.hid hs
  have hn20 : f.atoms.length ≤ 20 := hok.n
  have hn60 : f.terms.length ≤ 60 := hok.t.n
  obtain ⟨Q, hQ⟩ : ∃ Q, Q = RdP w0 w b L f fuel (roundF f fuel.toNat s (.no st u)) := ⟨_, rfl⟩
  have HQ := Lib.hid hQ
  rw [← hQ]
  obtain ⟨wA, hwA⟩ : ∃ wA : World, wA = (w.alloc (.cells #[.int .i64 ph.a, .int .i64 ph.b, .int .i64 ph.c, .int .i64 ph.d] TOp)).alloc (.cells #[.int .i64 0, .slice none 0 0, .slice none 0 0, .slice none 0 0, .slice none 0 0, .int .i64 0] TVd) := ⟨_, rfl⟩
  have kA : Keep NoS w wA := by rw [hwA]; exact ((Keep.refl _ _).alloc _).alloc _
  have HSA := Lib.hid (h.keep kA)
  have HB3 : Hid (wA.cell? ⟨w.heap.size, 0, none⟩ = some (.int .i64 ph.a) ∧ wA.cell? ⟨w.heap.size, 1, none⟩ = some (.int .i64 ph.b) ∧ wA.cell? ⟨w.heap.size, 2, none⟩ = some (.int .i64 ph.c) ∧ wA.cell? ⟨w.heap.size, 3, none⟩ = some (.int .i64 ph.d) ∧ w.heap.size < wA.heap.size) := Lib.hid (by
    have hb : Blk wA w.heap.size #[.int .i64 ph.a, .int .i64 ph.b, .int .i64 ph.c, .int .i64 ph.d] := by rw [hwA]; exact Blk.old (blk_at _ _ rfl) _
    exact ⟨hb.cell 0, hb.cell 1, hb.cell 2, hb.cell 3, hb.lt⟩)
  have HB4 : Hid (wA.heap[w.heap.size + 1]? = some (.cells (vdC 0 (.slice none 0 0) (.slice none 0 0) (.slice none 0 0) 0) TVd (0, 0))) := Lib.hid (by rw [hwA]; exact heap_alloc_at _ _ _ (by simp))
  have CFU := Lib.hid (full_any w0 wA b L f fuel M s (h.keep kA) (by omega) (by omega) (by omega))
  rw [decide_eq_false (show ¬ (400 < s.cls.length ∨ 3000 < s.steps.length) by omega)] at CFU
  have CD := Lib.hid (fun w' (k : Keep NoS wA w') => CD w' M.oC M.cC (((h.keep kA).keep k).c.cls))
  have HG4 : Hid (w0.heap.size ≤ w.heap.size + 1) := Lib.hid (by have := h.k.size; omega)
  have HKA := Lib.hid (h.k.both kA)
  have FNA := Lib.hid (FrN.of kA)
  have HG4w : Hid (w.heap.size ≤ w.heap.size + 1) := Lib.hid (Nat.le_succ _)
  obtain ⟨y0, y1, y2, y3, y4, y5, y6, y7, y8, y9, yl⟩ := svC_cells HSA.out.bk
  clear h hF hok hc hs hss hfu hQ kA
  obtain ⟨n, hn⟩ : ∃ n, f.atoms.length = n := ⟨_, rfl⟩
  have HN := Lib.hid hn
  obtain ⟨nC, hnC⟩ : ∃ nC, s.cls.length = nC := ⟨_, rfl⟩
  have HNC := Lib.hid hnC
  rw [hn] at CD y4 hn20
  rw [hnC] at CD y5
  clear hn hnC y0 y1 y2 y3 y6 y7
  go_enter Tryz.func26, Tryz.ntmps26
  go_upto_region 1 with fail
  rw [← hwA]
  clear hwA
  generalize hb3 : w.heap.size = b3 at HB3 HB4 HG4 HG4w ⊢
  have HW3 := Lib.hid hb3
  clear hb3
  go_wp2_with fail
  refine CFU.out.mono ?_
  rintro e w2 ⟨rfl, hw2⟩
  subst hw2
  clear CFU
  obtain ⟨wA, hwA⟩ : ∃ W : World, W = w2 := ⟨_, rfl⟩
  subst hwA
  go_upto_region 3 with fail
  refine wp_region_inv (fun w' => Keep NoS wA w') (pstR3 wA b b3 n M.oA M.oC M.cA nC M.cC ph fuel (s.used : Int) wA.heap.size (.no st u)) (by kernel_rfl) (by kernel_rfl) (by kernel_rfl) (by kernel_rfl) (Keep.refl _ _).drew _ (fun σ => by
    show putAll _ σ [0, 1, 2, 3, 4, 5, 6, 7, 8, 9, 10, 11, 12, 13, 14, 15, 16, 17, 18, 19, 20, 21, 22, 23, 24, 25, 26, 27] _ = _
    simp only [putAll, List.getElem?_toArray, List.getElem?_cons_zero, List.getElem?_cons_succ, Act.put, List.setIfInBounds_toArray, List.set_cons_zero, List.set_cons_succ]
    rfl) ?_ ?_
  · intro S σ w1 hC e he HK
    have he : e < 28 := he
    have hC : Keep NoS wA w1 := hC
    obtain rfl | rfl | rfl | rfl | rfl | rfl | rfl | rfl | rfl | rfl | rfl | rfl | rfl | rfl | rfl | rfl | rfl | rfl | rfl | rfl | rfl | rfl | rfl | rfl | rfl | rfl | rfl | rfl : e = 0 ∨ e = 1 ∨ e = 2 ∨ e = 3 ∨ e = 4 ∨ e = 5 ∨ e = 6 ∨ e = 7 ∨ e = 8 ∨ e = 9 ∨ e = 10 ∨ e = 11 ∨ e = 12 ∨ e = 13 ∨ e = 14 ∨ e = 15 ∨ e = 16 ∨ e = 17 ∨ e = 18 ∨ e = 19 ∨ e = 20 ∨ e = 21 ∨ e = 22 ∨ e = 23 ∨ e = 24 ∨ e = 25 ∨ e = 26 ∨ e = 27 := by omega
    · refine wpAt rfl rfl fun K hK => ?_
      go_simp
      exact hK _ _ ⟨hC, fun d hd hs h => pstR3_keep ⟨by decide, by decide⟩ (Keep.refl _ _) d _ h, _, rfl, rfl⟩
    · have h0 : σ 0 = .pointer (some ⟨b, 0, none⟩) := HK.post 0 (by kernel_rfl)
      rw [h0]
      have yl' := Nat.lt_of_lt_of_le yl hC.size
      refine wpAt rfl rfl fun K hK => ?_
      go_simp
      exact hK _ _ ⟨hC, fun d hd hs h => pstR3_keep ⟨by decide, by decide⟩ (Keep.refl _ _) d _ h, _, rfl, rfl⟩
    · have h1 : σ 1 = .pointer (some ⟨b, 0, none⟩) := HK.post 1 (by kernel_rfl)
      rw [h1]
      have yl' := Nat.lt_of_lt_of_le yl hC.size
      refine wpAt rfl rfl fun K hK => ?_
      go_simp
      exact hK _ _ ⟨hC, fun d hd hs h => pstR3_keep ⟨by decide, by decide⟩ (Keep.refl _ _) d _ h, _, rfl, rfl⟩
    · have h2 : σ 2 = .pointer (some ⟨b, 4, none⟩) := HK.post 2 (by kernel_rfl)
      rw [h2]
      have y4' := (hC.cell yl).trans y4
      have yl' := Nat.lt_of_lt_of_le yl hC.size
      refine wpAt rfl rfl fun K hK => ?_
      go_simp
      exact hK _ _ ⟨hC, fun d hd hs h => pstR3_keep ⟨by decide, by decide⟩ (Keep.refl _ _) d _ h, _, rfl, rfl⟩
    · have h3 : σ 3 = .slice M.oA n M.cA := HK.post 3 (by kernel_rfl)
      rw [h3]
      refine wpAt rfl rfl fun K hK => ?_
      go_simp
      exact hK _ _ ⟨hC, fun d hd hs h => pstR3_keep ⟨by decide, by decide⟩ (Keep.refl _ _) d _ h, _, rfl, rfl⟩
    · refine wpAt rfl rfl fun K hK => ?_
      go_simp
      exact hK _ _ ⟨hC, fun d hd hs h => pstR3_keep ⟨by decide, by decide⟩ (Keep.refl _ _) d _ h, _, rfl, rfl⟩
    · have h5 : σ 5 = .pointer (some ⟨b, 0, none⟩) := HK.post 5 (by kernel_rfl)
      rw [h5]
      have yl' := Nat.lt_of_lt_of_le yl hC.size
      refine wpAt rfl rfl fun K hK => ?_
      go_simp
      exact hK _ _ ⟨hC, fun d hd hs h => pstR3_keep ⟨by decide, by decide⟩ (Keep.refl _ _) d _ h, _, rfl, rfl⟩
    · have h6 : σ 6 = .pointer (some ⟨b, 0, none⟩) := HK.post 6 (by kernel_rfl)
      rw [h6]
      have yl' := Nat.lt_of_lt_of_le yl hC.size
      refine wpAt rfl rfl fun K hK => ?_
      go_simp
      exact hK _ _ ⟨hC, fun d hd hs h => pstR3_keep ⟨by decide, by decide⟩ (Keep.refl _ _) d _ h, _, rfl, rfl⟩
    · have h7 : σ 7 = .pointer (some ⟨b, 5, none⟩) := HK.post 7 (by kernel_rfl)
      rw [h7]
      have y5' := (hC.cell yl).trans y5
      have yl' := Nat.lt_of_lt_of_le yl hC.size
      refine wpAt rfl rfl fun K hK => ?_
      go_simp
      exact hK _ _ ⟨hC, fun d hd hs h => pstR3_keep ⟨by decide, by decide⟩ (Keep.refl _ _) d _ h, _, rfl, rfl⟩
    · have h4 : σ 4 = .int .i64 (n : Int) := HK.post 4 (by kernel_rfl)
      rw [h4]
      have h8 : σ 8 = .slice M.oC nC M.cC := HK.post 8 (by kernel_rfl)
      rw [h8]
      refine wpAt rfl rfl fun K hK => ?_
      go_simp
      exact hK _ _ ⟨hC, fun d hd hs h => pstR3_keep ⟨by decide, by decide⟩ (Keep.refl _ _) d _ h, _, rfl, rfl⟩
    · obtain ⟨o0, o1, o2, o3, ol⟩ := HB3.out
      have o0' := (hC.cell ol).trans o0
      have o1' := (hC.cell ol).trans o1
      have o2' := (hC.cell ol).trans o2
      have o3' := (hC.cell ol).trans o3
      have ol' := Nat.lt_of_lt_of_le ol hC.size
      refine wpAt rfl rfl fun K hK => ?_
      go_simp
      exact hK _ _ ⟨hC, fun d hd hs h => pstR3_keep ⟨by decide, by decide⟩ (Keep.refl _ _) d _ h, _, rfl, rfl⟩
    · refine wpAt rfl rfl fun K hK => ?_
      go_simp
      exact hK _ _ ⟨hC, fun d hd hs h => pstR3_keep ⟨by decide, by decide⟩ (Keep.refl _ _) d _ h, _, rfl, rfl⟩
    · have h11 : σ 11 = .pointer (some ⟨b, 0, none⟩) := HK.post 11 (by kernel_rfl)
      rw [h11]
      have yl' := Nat.lt_of_lt_of_le yl hC.size
      refine wpAt rfl rfl fun K hK => ?_
      go_simp
      exact hK _ _ ⟨hC, fun d hd hs h => pstR3_keep ⟨by decide, by decide⟩ (Keep.refl _ _) d _ h, _, rfl, rfl⟩
    · have h12 : σ 12 = .pointer (some ⟨b, 0, none⟩) := HK.post 12 (by kernel_rfl)
      rw [h12]
      have yl' := Nat.lt_of_lt_of_le yl hC.size
      refine wpAt rfl rfl fun K hK => ?_
      go_simp
      exact hK _ _ ⟨hC, fun d hd hs h => pstR3_keep ⟨by decide, by decide⟩ (Keep.refl _ _) d _ h, _, rfl, rfl⟩
    · have h13 : σ 13 = .pointer (some ⟨b, 8, none⟩) := HK.post 13 (by kernel_rfl)
      rw [h13]
      have y8' := (hC.cell yl).trans y8
      have yl' := Nat.lt_of_lt_of_le yl hC.size
      refine wpAt rfl rfl fun K hK => ?_
      go_simp
      exact hK _ _ ⟨hC, fun d hd hs h => pstR3_keep ⟨by decide, by decide⟩ (Keep.refl _ _) d _ h, _, rfl, rfl⟩
    · refine wpAt rfl rfl fun K hK => ?_
      go_simp
      exact hK _ _ ⟨hC, fun d hd hs h => pstR3_keep ⟨by decide, by decide⟩ (Keep.refl _ _) d _ h, _, rfl, rfl⟩
    · have h15 : σ 15 = .pointer (some ⟨b, 0, none⟩) := HK.post 15 (by kernel_rfl)
      rw [h15]
      have yl' := Nat.lt_of_lt_of_le yl hC.size
      refine wpAt rfl rfl fun K hK => ?_
      go_simp
      exact hK _ _ ⟨hC, fun d hd hs h => pstR3_keep ⟨by decide, by decide⟩ (Keep.refl _ _) d _ h, _, rfl, rfl⟩
    · have h16 : σ 16 = .pointer (some ⟨b, 0, none⟩) := HK.post 16 (by kernel_rfl)
      rw [h16]
      have yl' := Nat.lt_of_lt_of_le yl hC.size
      refine wpAt rfl rfl fun K hK => ?_
      go_simp
      exact hK _ _ ⟨hC, fun d hd hs h => pstR3_keep ⟨by decide, by decide⟩ (Keep.refl _ _) d _ h, _, rfl, rfl⟩
    · have h17 : σ 17 = .pointer (some ⟨b, 9, none⟩) := HK.post 17 (by kernel_rfl)
      rw [h17]
      have y9' := (hC.cell yl).trans y9
      have yl' := Nat.lt_of_lt_of_le yl hC.size
      refine wpAt rfl rfl fun K hK => ?_
      go_simp
      exact hK _ _ ⟨hC, fun d hd hs h => pstR3_keep ⟨by decide, by decide⟩ (Keep.refl _ _) d _ h, _, rfl, rfl⟩
    · have h14 : σ 14 = .int .i64 fuel := HK.post 14 (by kernel_rfl)
      rw [h14]
      have h18 : σ 18 = .int .i64 (s.used : Int) := HK.post 18 (by kernel_rfl)
      rw [h18]
      obtain ⟨hf1, hf2⟩ := HFU.out
      refine wpAt rfl rfl fun K hK => ?_
      go_simp
      exact hK _ _ ⟨hC, fun d hd hs h => pstR3_keep ⟨by decide, by decide⟩ (Keep.refl _ _) d _ h, _, rfl, congrArg (Value.int .i64) (IntWalk.i64_in _ HFU.out)⟩
    · have h9 : σ 9 = .agg #[.int .i64 (n : Int), .slice M.oC nC M.cC] := HK.post 9 (by kernel_rfl)
      rw [h9]
      have h10 : σ 10 = .agg #[.int .i64 ph.a, .int .i64 ph.b, .int .i64 ph.c, .int .i64 ph.d] := HK.post 10 (by kernel_rfl)
      rw [h10]
      have h19 : σ 19 = .int .i64 (fuel - (s.used : Int)) := HK.post 19 (by kernel_rfl)
      rw [h19]
      refine wpAt rfl rfl fun K hK => ?_
      go_simp
      refine (CD.out _ hC).mono ?_
      intro e w2 ha
      obtain ⟨hk2, A2, rfl, hA2⟩ := ha.cells (base := wA.heap.size) hC.size
      exact hK _ _ ⟨hC.both hk2, fun d hd hs h => pstR3_keep ⟨by decide, by decide⟩ (hk2) d _ h, _, rfl, ⟨A2, rfl, hA2⟩⟩
    · obtain ⟨A2, e1, hA2⟩ := HK.post 20 (by kernel_rfl)
      rw [e1]
      refine wpAt rfl rfl fun K hK => ?_
      go_simp
      exact hK _ _ ⟨hC, fun d hd hs h => pstR3_keep ⟨by decide, by decide⟩ (Keep.refl _ _) d _ h, _, rfl, ⟨A2, rfl, hA2⟩⟩
    · obtain ⟨A2, e1, hA2⟩ := HK.post 21 (by kernel_rfl)
      rw [e1]
      refine wpAt rfl rfl fun K hK => ?_
      go_simp
      exact hK _ _ ⟨hC, fun d hd hs h => pstR3_keep ⟨by decide, by decide⟩ (Keep.refl _ _) d _ h, _, rfl, ⟨A2, rfl, hA2⟩⟩
    · obtain ⟨A2, e1, hA2⟩ := HK.post 21 (by kernel_rfl)
      rw [e1]
      refine wpAt rfl rfl fun K hK => ?_
      go_simp
      exact hK _ _ ⟨hC, fun d hd hs h => pstR3_keep ⟨by decide, by decide⟩ (Keep.refl _ _) d _ h, _, rfl, rfl⟩
    · refine wpAt rfl rfl fun K hK => ?_
      go_simp
      exact hK _ _ ⟨hC.alloc _, fun d hd hs h => pstR3_keep ⟨by decide, by decide⟩ ((Keep.refl _ _).alloc _) d _ h, _, rfl, ⟨w1.heap.size, rfl, hC.size, ⟨_, heap_alloc_at _ _ _ rfl⟩, fun _ => blk_at _ _ rfl, fun hm => by rw [markS_other (by omega), HK.down 26 (by kernel_rfl)] at hm; cases hm⟩⟩
    · refine wpAt rfl rfl fun K hK => ?_
      go_simp
      exact hK _ _ ⟨hC.alloc _, fun d hd hs h => pstR3_keep ⟨by decide, by decide⟩ ((Keep.refl _ _).alloc _) d _ h, _, rfl, ⟨w1.heap.size, rfl, hC.size, ⟨_, heap_alloc_at _ _ _ rfl⟩, blk_at _ _ rfl⟩⟩
    · obtain ⟨A2, e1, hA2⟩ := HK.post 22 (by kernel_rfl)
      rw [e1]
      obtain ⟨os, cs, rfl, hst⟩ := hA2
      obtain ⟨b2, e2, g2, t1, h1, _⟩ := HK.post 24 (by kernel_rfl)
      have h1 := h1 HK.self
      rw [e2]
      have p0 := h1.cell 0
      have p1 := h1.cell 1
      have p2 := h1.cell 2
      have p3 := h1.cell 3
      have p4 := h1.cell 4
      have f0 := h1.free 0
      have f1 := h1.free 1
      have f2 := h1.free 2
      have f3 := h1.free 3
      have f4 := h1.free 4
      have pl := h1.lt
      simp at p0 p1 p2 p3 p4
      refine wpAt rfl rfl fun K hK => ?_
      go_simp
      refine hK _ _ ⟨?_, ?_, undef, ?_, ?_⟩
      · exact keep5 hC g2 _ _ _ _ _
      · intro d hd hs h
        have o := set5_B t1 ⟨by decide, by decide⟩ (.int .i64 2) (.slice none 0 0) (.slice os st.length cs) (.slice none 0 0) (.int .i64 (u : Int))
        refine pstR3_s26 e2 g2 t1 o (((((h1.set 0 _).set 1 _).set 2 _).set 3 _).set 4 _) ?_ d hd h
        exact ⟨os, cs, rfl, o.steps hst (hst.neT t1 (by decide))⟩
      · rfl
      · trivial
    · have h23 : σ 23 = fa0 := HK.post 23 (by kernel_rfl)
      rw [h23]
      obtain ⟨b2, e2, g2, t1, h1⟩ := HK.post 25 (by kernel_rfl)
      rw [e2]
      unfold fa0
      obtain ⟨p0, p1, f0, f1, pl⟩ := h1.two
      refine wpAt rfl rfl fun K hK => ?_
      go_simp
      refine hK _ _ ⟨?_, ?_, undef, ?_, ?_⟩
      · exact keep2 hC g2 _ _
      · intro d hd hs h
        exact pstR3_s27 e2 g2 t1 (set2_B t1 ⟨by decide, by decide⟩ _ _) ((h1.set 0 _).set 1 _) d hd h
      · rfl
      · trivial
  · intro S σ w9 hC hS hP
    have hC : Keep NoS wA w9 := hC
    obtain ⟨b5, e24, g5, t5, -, hA5⟩ : ∃ b', σ 24 = .pointer (some ⟨b', 0, none⟩) ∧ wA.heap.size ≤ b' ∧ TyB w9 b' TAn ∧ (S 26 = false → Blk w9 b' #[.int .i64 0, .slice none 0 0, .slice none 0 0, .slice none 0 0, .int .i64 0]) ∧ (S 26 = true → ∃ A, Blk w9 b' A ∧ AnsC n wA.heap.size (.no st u) A w9) := hP 24 (by show 24 < 28; omega)
    obtain ⟨A5, hB5, hC5⟩ := hA5 (hS 26 (by show 26 < 28; omega))
    obtain ⟨b6, e25, g6, t6, hB6⟩ : ∃ b', σ 25 = .pointer (some ⟨b', 0, none⟩) ∧ wA.heap.size ≤ b' ∧ TyB w9 b' TFa ∧ Blk w9 b' #[.int .i64 0, .int .i64 0] := hP 25 (by show 25 < 28; omega)
    have T5 := Lib.hid t5
    have T6 := Lib.hid t6
    have HB5 := Lib.hid hB5
    have HB6 := Lib.hid hB6
    have HC5 := Lib.hid hC5
    have KC := Lib.hid hC
    have HS9 := Lib.hid (HSA.out.keep hC)
    have FN9 := Lib.hid (FNA.out.trans (FrN.of hC))
    have HB49 := Lib.hid ((hC.block (b3 + 1) (lt_of_heap HB4.out) fun _ h => h).trans HB4.out)
    have HG5 := Lib.hid g5
    rw [e24, e25]
    refine NoPanic.normal ?_
    clear hC hS hP hA5 e24 e25 t5 t6 hB5 hB6 hC5 y4 y5 y8 y9 yl CD HB3 HB4 g6
    obtain ⟨os, cs, rfl, hst5⟩ := HC5.out
    have HST5 := Lib.hid hst5
    clear hst5 HC5
    have c0 := HB6.out.cell 0
    have cl := HB6.out.lt
    simp at c0
    go_upto_region 6 with fail
    clear c0 cl
    obtain ⟨y0, y1, y2, y3, y4, y5, y6, y7, y8, y9, yl⟩ := svC_cells HS9.out.bk
    have a4 : w9.cell? ⟨b5, 4, none⟩ = some (.int .i64 (u : Int)) := HB5.out.cell 4
    have al := HB5.out.lt
    have fr9 : w9.frozen? ⟨b, 9, none⟩ = false := free_of_heap HS9.out.bk
    have hub : (-9223372036854775808 : Int) ≤ (s.used : Int) + (u : Int) ∧ (s.used : Int) + (u : Int) ≤ 9223372036854775807 := by have := HFU2.out; omega
    have HUB := Lib.hid hub
    clear y0 y1 y2 y3 y4 y5 y6 y7 y8 hub
    refine wp_region_by (fun w' => Keep NoS w9 w') [9] [([0, 1, 2, 3, 4, 5, 6, 7, 8], 9)] [] (by kernel_rfl) (by kernel_rfl) (Keep.refl _ _).drew ?_
    intro X W hne hF hcl
    have HCL := Lib.hid hcl
    have z9 := fun x => ((hF x).cell yl).trans y9
    have za := fun x => ((hF x).cell al).trans a4
    have zl := fun x => Nat.lt_of_lt_of_le yl (hF x).size
    have zm := fun x => Nat.lt_of_lt_of_le al (hF x).size
    clear hF hcl
    simp only [wpPlan, pickOps, List.getElem?_toArray, List.getElem?_cons_zero, List.getElem?_cons_succ, clsOf, Bool.false_eq_true, if_false]
    (repeat (quiet_step (fail))); refine wpQuiet_nil ?_
    refine wpAt rfl rfl fun K hK => ?_
    go_simp
    refine hK _ _ ⟨fun h => (by simp at h), ?_⟩
    clear hK z9 za zl zm HCL
    (repeat (quiet_step (fail))); refine wpQuiet_nil ?_
    refine NoPanic.normal ?_
    have hwr : IntKind.i64.wrap ((s.used : Int) + (u : Int)) = ((s.used + u : Nat) : Int) := by rw [IntWalk.i64_in _ HUB.out]; omega
    rw [hwr]
    clear hwr y9 yl a4 al fr9 HUB
    obtain ⟨w10, hw10⟩ : ∃ w10 : World, w10 = (w9.setCell ⟨b, 9, none⟩ (.int .i64 ((s.used + u : Nat) : Int))).drew := ⟨_, rfl⟩
    rw [← hw10]
    have kd : Keep NoS (w9.setCell ⟨b, 9, none⟩ (.int .i64 ((s.used + u : Nat) : Int))) w10 := by rw [hw10]; exact (Keep.refl _ _).drew
    have HS10 := Lib.hid ((HS9.out.used1 (s.used + u)).keep kd)
    have o10 : OneB w9 (w9.setCell ⟨b, 9, none⟩ (.int .i64 ((s.used + u : Nat) : Int))) b TSv := (OneB.refl (svT HS9.out)).set ⟨by decide, by decide⟩ 9 _
    have FN10 := Lib.hid ((FN9.out.sv (svT HS9.out) 9 (.int .i64 ((s.used + u : Nat) : Int))).trans (FrN.of kd))
    have HGW : Hid (w.heap.size ≤ b3 + 1) := Lib.hid (by have := HW3.out; omega)
    have hn5 : b5 ≠ b := tyB_ne T5.out (svT HS9.out) (by decide)
    have hn4 : b3 + 1 ≠ b := tyB_ne ⟨_, HB49.out⟩ (svT HS9.out) (by decide)
    have HB510 := Lib.hid (Blk.keep (show Blk (w9.setCell ⟨b, 9, none⟩ (.int .i64 ((s.used + u : Nat) : Int))) b5 _ from HB5.out.setOther 9 _ hn5) kd)
    have HB410 := Lib.hid ((kd.block (b3 + 1) (lt_of_heap ((o10.other (b3 + 1) hn4).trans HB49.out)) fun _ h => h).trans ((o10.other (b3 + 1) hn4).trans HB49.out))
    have HST10 := Lib.hid ((o10.steps HST5.out (HST5.out.neT (svT HS9.out) (by decide))).keep kd)
    clear hw10 kd o10 hn5 hn4 HB5 HB49 HST5 HS9 T5 T6 HB6
    have a0 : w10.cell? ⟨b5, 0, none⟩ = some (.int .i64 2) := HB510.out.cell 0
    have a2 : w10.cell? ⟨b5, 2, none⟩ = some (.slice os st.length cs) := HB510.out.cell 2
    have al := HB510.out.lt
    go_upto_region 11 with fail
    obtain ⟨y0, y1, y2, y3, y4, y5, y6, y7, y8, y9, yl⟩ := svC_cells HS10.out.bk
    clear y0 y1 y2 y3 y4 y5 y7 y8 y9 a0
    simp only at y6
    refine wp_region_by (fun w' => Keep NoS w10 w') [] [([0, 1, 2, 3, 4, 5], 6), ([], 7)] [8] (by kernel_rfl) (by kernel_rfl) (Keep.refl _ _).drew ?_
    intro X W hne hF hcl
    have HCL := Lib.hid hcl
    have z6 := fun x => ((hF x).cell yl).trans y6
    have za := fun x => ((hF x).cell al).trans a2
    have zl := fun x => Nat.lt_of_lt_of_le yl (hF x).size
    have zm := fun x => Nat.lt_of_lt_of_le al (hF x).size
    clear hF hcl
    simp only [wpPlan, pickOps, List.getElem?_toArray, List.getElem?_cons_zero, List.getElem?_cons_succ, clsOf, Bool.false_eq_true, if_false]
    (repeat (quiet_step (fail))); refine wpQuiet_nil ?_
    refine wpAt rfl rfl fun K hK => ?_
    go_simp
    have k11 : Keep NoS w10 (w10.alloc (.cells #[.slice M.oS s.steps.length M.cS, .slice os st.length cs] 47)).drew := ((Keep.refl _ _).alloc _).drew
    have hb11 : Blk (w10.alloc (.cells #[.slice M.oS s.steps.length M.cS, .slice os st.length cs] 47)).drew w10.heap.size #[.slice M.oS s.steps.length M.cS, .slice os st.length cs] := Blk.keep (blk_at _ _ rfl) (Keep.refl _ _).drew
    refine hK _ _ ⟨fun _ => HCL.out _ k11, ?_⟩
    clear hK z6 za zl zm a2 al y6 yl
    obtain ⟨rs1, hl1, ho1, hp1⟩ := HS10.out.st.keep k11
    obtain ⟨rs2, hl2, ho2, hp2⟩ := HST10.out.keep k11
    rw [List.length_map] at hl2
    have hl1' : rs1.length = s.steps.length := hl1
    have CC := Lib.hid (concatS_any _ _ _ _ rs1 rs2 hb11 (OwnG.src stL_len ho1) (OwnG.src stL_len ho2) (by have := HS1.out; omega) (by omega))
    (repeat (quiet_step (fail))); refine wpQuiet_nil ?_
    refine wpAt rfl rfl fun K hK => ?_
    go_simp
    refine CC.out.mono ?_
    rintro e w12 ⟨v12, rfl, ho12, hk12⟩
    have HST12 : Hid (StepsT w12 w10.heap.size v12 (stepsA s st)) := Lib.hid (StepsT.both hl1 hp1 (by rw [List.length_map]; exact hl2) hp2 (World.ownsRow_mono ho12 k11.size) hk12)
    have k12 : Keep NoS w10 w12 := k11.both hk12
    have HLA : Hid ((stepsA s st).length ≤ 2000) := Lib.hid (by unfold stepsA; rw [List.length_append, List.length_map]; have := HS1.out; omega)
    have HOKA : Hid (∀ x ∈ stepsA s st, StOK f.atoms.length x) := Lib.hid (fun x hx => by
      rcases List.mem_append.1 hx with hx | hx
      · exact HSS.out x hx
      · obtain ⟨c, hc, rfl⟩ := List.mem_map.1 hx
        exact ⟨.inl rfl, hst c hc⟩)
    obtain ⟨o12, c12, hv12, _⟩ := HST12.out.form
    subst hv12
    refine hK _ _ ⟨fun _ => HCL.out _ k12, ?_⟩
    have HS12 := Lib.hid (HS10.out.keep k12)
    have FN12 := Lib.hid (FN10.out.trans (FrN.of k12))
    have HB412 := Lib.hid ((k12.block (b3 + 1) (lt_of_heap HB410.out) fun _ h => h).trans HB410.out)
    clear hK HCL CC ho1 ho2 hp1 hp2 hb11 ho12 hk12 k11 k12 HS10 HB410 HB510 HST10 hst hstl hl1 hl2 hl1'
    (repeat (quiet_step (fail))); refine wpQuiet_nil ?_
    refine NoPanic.normal ?_
    obtain ⟨y0, y1, y2, y3, y4, y5, y6, y7, y8, y9, yl⟩ := svC_cells HS12.out.bk
    simp only at y9
    have CT := Lib.hid (jtake_any w12 L f _ _ (HF.out.keep HS12.out.k) HOK.out HST12.out.steps HOKA.out (by have := HOK.out.c.n; have := HLA.out; omega) (by have := HLA.out; omega))
    unfold FmL.v at CT
    obtain ⟨tk, htk⟩ : ∃ tk, Sv.takeJ f (stepsA s st) = tk := ⟨_, rfl⟩
    have HTK := Lib.hid htk
    rw [htk] at CT
    generalize hLL : (stepsA s st).length = nl at *
    have HNL := Lib.hid hLL
    clear htk hLL y4 y5 y6 y7 y8
    go_wp2_with fail
    refine CT.out.mono ?_
    rintro e w13 ⟨rfl, hk13⟩
    have k14 : Keep NoS w12 (w13.alloc (.cells #[.int .i64 0, .int .i64 0] TFa)) := hk13.alloc _
    have d0 : (w13.alloc (.cells #[.int .i64 0, .int .i64 0] TFa)).cell? ⟨w13.heap.size, 0, none⟩ = some (.int .i64 0) := (blk_at (w := w13) #[.int .i64 0, .int .i64 0] TFa rfl).cell 0
    have dl : w13.heap.size < (w13.alloc (.cells #[.int .i64 0, .int .i64 0] TFa)).heap.size := (blk_at (w := w13) #[.int .i64 0, .int .i64 0] TFa rfl).lt
    have HS14 := Lib.hid (HS12.out.keep k14)
    have FN14 := Lib.hid (FN12.out.trans (FrN.of k14))
    have HB414 := Lib.hid ((k14.block (b3 + 1) (lt_of_heap HB412.out) fun _ h => h).trans HB412.out)
    have HST14 := Lib.hid (HST12.out.keep k14)
    have y9 := (k14.cell yl).trans y9
    have yl := Nat.lt_of_lt_of_le yl k14.size
    clear hk13 k14 CT HS12 HB412 HST12 y0 y1 y2 y3
    go_upto_region 13 with fail
    generalize w13.alloc (.cells #[.int .i64 0, .int .i64 0] TFa) = w14 at *
    generalize w13.heap.size = b9 at *
    obtain ⟨p0, p1, p2, p3, p4, p5, q0, q1, q2, q3, q4, q5, pl⟩ := vdC_cells (⟨_, HB414.out⟩ : Blk _ _ _)
    have T4 : Hid (TyB w14 (b3 + 1) TVd) := Lib.hid ⟨_, HB414.out⟩
    cases tk
    case false =>
      go_wp2
      refine bodyPost_ret (by simp [results, Tryz.results26, go_sem, p0, p1, p2, p3, p4, p5, pl]; rfl) rfl ?_
      have hR : roundF f fuel.toNat s (.no st u) = .done 3 := by
        show (if Sv.takeJ f (stepsA s st) = true then RdR.done 2 else RdR.done 3) = _
        rw [HTK.out]; rfl
      rw [HQ.out, hR]
      exact RdP.hungry (keep6 HS14.out.k HG4.out _ _ _ _ _ _) (FN14.out.new6 HGW.out _ _ _ _ _ _) _
    case true =>
      go_wp2
      refine bodyPost_ret (by simp [results, Tryz.results26, go_sem, p0, p1, p2, p3, p4, p5, pl]; rfl) rfl ?_
      have hR : roundF f fuel.toNat s (.no st u) = .done 2 := by
        show (if Sv.takeJ f (stepsA s st) = true then RdR.done 2 else RdR.done 3) = _
        rw [HTK.out]; rfl
      rw [HQ.out, hR]
      refine ⟨keep6 HS14.out.k HG4.out _ _ _ _ _ _, FN14.out.new6 HGW.out _ _ _ _ _ _, none, 0, 0, [], none, 0, 0, o12, c12, stepsA s st, (s.used : Int) + (u : Int), by rw [HNL.out], src_nil _, by simp, ?_, by rw [HNL.out]; have := HLA.out; omega, fun x hx => ?_⟩
      · have := ((set6_B T4.out ⟨by decide, by decide⟩ (.int .i64 2) (.slice none 0 0) (.slice none 0 0) (.slice none 0 0) (.slice o12 nl c12) (.int .i64 ((s.used : Int) + (u : Int)))).steps HST14.out (HST14.out.neT T4.out (by decide))).steps
        rw [HNL.out]
        exact this
      · have h1 := (HOKA.out x hx).2.le
        have := HOK.out.n
        omega
end Go.Proofs.YtnndmdfjdodiiaaGreat
