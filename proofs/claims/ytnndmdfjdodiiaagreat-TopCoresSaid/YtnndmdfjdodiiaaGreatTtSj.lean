/- Package solve: round, where the search tells Yes. -/
import Derived.Test.YtnndmdfjdodiiaaGreatTtSh
namespace Go.Proofs.YtnndmdfjdodiiaaGreat
open Go.ChangeShapes Go.WideShapes Go.RowKit Go.Maps
set_option linter.unusedVariables false
set_option linter.unusedSimpArgs false

set_option maxRecDepth 100000 in
set_option maxHeartbeats 32000000 in
theorem round_yes (w0 w : World) (b : Nat) (L : FmL) (f : Sv.Frm) (fuel : Int) (M : SvM) (s : Sv.SvS) (ph : OpO) (T : List Int) (u : Nat) (h : SvL w0 w b L f fuel M s) (hF : IsForm w0 L f) (hok : FmOK f) (hc : s.cls.length ≤ 400) (hs : s.steps.length ≤ 1000) (hss : ∀ x ∈ s.steps, StOK f.atoms.length x) (hfu : (s.used : Int) < fuel ∧ fuel ≤ 2000) (hu : u ≤ 2000) 
    (CD : ∀ w' oc cc, IsCls w' (.slice oc s.cls.length cc) s.cls → Calls Tryz.prog 39 #[.agg #[.int .i64 (f.atoms.length : Int), .slice oc s.cls.length cc], .slice none 0 0, .agg #[.int .i64 ph.a, .int .i64 ph.b, .int .i64 ph.c, .int .i64 ph.d], .int .i64 (fuel - (s.used : Int))] w' (AnsP f.atoms.length (.yes T u) w')) :
    Calls Tryz.prog 26 #[.pointer (some ⟨b, 0, none⟩), .agg #[.int .i64 ph.a, .int .i64 ph.b, .int .i64 ph.c, .int .i64 ph.d]] w (RdP w0 w b L f fuel (roundF f fuel.toNat s (.yes T u))) := by
  have HOK := Lib.hid hok
  have HF := Lib.hid hF
  have HFU := Lib.hid (show (-9223372036854775808 : Int) ≤ fuel - (s.used : Int) ∧ fuel - (s.used : Int) ≤ 9223372036854775807 by omega)
  have HFU2 := Lib.hid hfu
  have HSS := Lib.hid hss
  have HC4 := Lib.hid hc
  have HS1 := Lib.hid hs
  have hn20 : f.atoms.length ≤ 20 := hok.n
  have hn60 : f.terms.length ≤ 60 := hok.t.n
  obtain ⟨Q, hQ⟩ : ∃ Q, Q = RdP w0 w b L f fuel (roundF f fuel.toNat s (.yes T u)) := ⟨_, rfl⟩
  have HQ := Lib.hid hQ
  rw [← hQ]
  obtain ⟨wA, hwA⟩ : ∃ wA : World, wA = (w.alloc (.cells #[.int .i64 ph.a, .int .i64 ph.b, .int .i64 ph.c, .int .i64 ph.d] TOp)).alloc (.cells #[.int .i64 0, .slice none 0 0, .slice none 0 0, .slice none 0 0, .slice none 0 0, .int .i64 0] TVd) := ⟨_, rfl⟩
  have kA : Keep NoS w wA := by rw [hwA]; exact ((Keep.refl _ _).alloc _).alloc _
  have HSA := Lib.hid (h.keep kA)
  have HB3 : Hid (wA.cell? ⟨w.heap.size, 0, none⟩ = some (.int .i64 ph.a) ∧ wA.cell? ⟨w.heap.size, 1, none⟩ = some (.int .i64 ph.b) ∧ wA.cell? ⟨w.heap.size, 2, none⟩ = some (.int .i64 ph.c) ∧ wA.cell? ⟨w.heap.size, 3, none⟩ = some (.int .i64 ph.d) ∧ w.heap.size < wA.heap.size) := Lib.hid (by
    have hb : Blk wA w.heap.size #[.int .i64 ph.a, .int .i64 ph.b, .int .i64 ph.c, .int .i64 ph.d] := by rw [hwA]; exact Blk.old (blk_at _ _ rfl) _
    exact ⟨hb.cell 0, hb.cell 1, hb.cell 2, hb.cell 3, hb.lt⟩)
  have HB4 : Hid (wA.heap[w.heap.size + 1]? = some (.cells (vdC 0 (.slice none 0 0) (.slice none 0 0) (.slice none 0 0) 0) TVd (0, 0))) := Lib.hid (by rw [hwA]; exact heap_alloc_at _ _ _ (by simp))
  have CFU := Lib.hid (full_any w0 wA b L f fuel M s (h.keep kA) (by omega) (by omega) (by omega))
  rw [decide_eq_false (show ¬ (400 < s.cls.length ∨ 3000 < s.steps.length) by omega)] at CFU
  have CD := Lib.hid (fun w' (k : Keep NoS wA w') => CD w' M.oC M.cC (((h.keep kA).keep k).c.cls))
  have HG4 : Hid (w0.heap.size ≤ w.heap.size + 1) := Lib.hid (by have := h.k.size; omega)
  have HKA := Lib.hid (h.k.both kA)
  have FNA := Lib.hid (FrN.of kA)
  have HG4w : Hid (w.heap.size ≤ w.heap.size + 1) := Lib.hid (Nat.le_succ _)
  obtain ⟨y0, y1, y2, y3, y4, y5, y6, y7, y8, y9, yl⟩ := svC_cells HSA.out.bk
  clear h hF hok hc hs hss hfu hQ kA
  obtain ⟨n, hn⟩ : ∃ n, f.atoms.length = n := ⟨_, rfl⟩
  have HN := Lib.hid hn
  obtain ⟨nC, hnC⟩ : ∃ nC, s.cls.length = nC := ⟨_, rfl⟩
  have HNC := Lib.hid hnC
  rw [hn] at CD y4 hn20
  rw [hnC] at CD y5
  clear hn hnC y0 y1 y2 y3 y6 y7
  go_enter Tryz.func26, Tryz.ntmps26
  go_upto_region 1 with fail
  rw [← hwA]
  clear hwA
  generalize hb3 : w.heap.size = b3 at HB3 HB4 HG4 HG4w ⊢
  have HW3 := Lib.hid hb3
  clear hb3
  go_wp2_with fail
  refine CFU.out.mono ?_
  rintro e w2 ⟨rfl, hw2⟩
  subst hw2
  clear CFU
  obtain ⟨wA, hwA⟩ : ∃ W : World, W = w2 := ⟨_, rfl⟩
  subst hwA
  go_upto_region 3 with fail
  refine wp_region_inv (fun w' => Keep NoS wA w') (pstR3 wA b b3 n M.oA M.oC M.cA nC M.cC ph fuel (s.used : Int) wA.heap.size (.yes T u)) (by kernel_rfl) (by kernel_rfl) (by kernel_rfl) (by kernel_rfl) (Keep.refl _ _).drew _ (fun σ => by
    show putAll _ σ [0, 1, 2, 3, 4, 5, 6, 7, 8, 9, 10, 11, 12, 13, 14, 15, 16, 17, 18, 19, 20, 21, 22, 23, 24, 25, 26, 27] _ = _
    simp only [putAll, List.getElem?_toArray, List.getElem?_cons_zero, List.getElem?_cons_succ, Act.put, List.setIfInBounds_toArray, List.set_cons_zero, List.set_cons_succ]
    rfl) ?_ ?_
  · intro S σ w1 hC e he HK
    have he : e < 28 := he
    have hC : Keep NoS wA w1 := hC
    obtain rfl | rfl | rfl | rfl | rfl | rfl | rfl | rfl | rfl | rfl | rfl | rfl | rfl | rfl | rfl | rfl | rfl | rfl | rfl | rfl | rfl | rfl | rfl | rfl | rfl | rfl | rfl | rfl : e = 0 ∨ e = 1 ∨ e = 2 ∨ e = 3 ∨ e = 4 ∨ e = 5 ∨ e = 6 ∨ e = 7 ∨ e = 8 ∨ e = 9 ∨ e = 10 ∨ e = 11 ∨ e = 12 ∨ e = 13 ∨ e = 14 ∨ e = 15 ∨ e = 16 ∨ e = 17 ∨ e = 18 ∨ e = 19 ∨ e = 20 ∨ e = 21 ∨ e = 22 ∨ e = 23 ∨ e = 24 ∨ e = 25 ∨ e = 26 ∨ e = 27 := by omega
    · refine wpAt rfl rfl fun K hK => ?_
      go_simp
      exact hK _ _ ⟨hC, fun d hd hs h => pstR3_keep ⟨by decide, by decide⟩ (Keep.refl _ _) d _ h, _, rfl, rfl⟩
    · have h0 : σ 0 = .pointer (some ⟨b, 0, none⟩) := HK.post 0 (by kernel_rfl)
      rw [h0]
      have yl' := Nat.lt_of_lt_of_le yl hC.size
      refine wpAt rfl rfl fun K hK => ?_
      go_simp
      exact hK _ _ ⟨hC, fun d hd hs h => pstR3_keep ⟨by decide, by decide⟩ (Keep.refl _ _) d _ h, _, rfl, rfl⟩
    · have h1 : σ 1 = .pointer (some ⟨b, 0, none⟩) := HK.post 1 (by kernel_rfl)
      rw [h1]
      have yl' := Nat.lt_of_lt_of_le yl hC.size
      refine wpAt rfl rfl fun K hK => ?_
      go_simp
      exact hK _ _ ⟨hC, fun d hd hs h => pstR3_keep ⟨by decide, by decide⟩ (Keep.refl _ _) d _ h, _, rfl, rfl⟩
    · have h2 : σ 2 = .pointer (some ⟨b, 4, none⟩) := HK.post 2 (by kernel_rfl)
      rw [h2]
      have y4' := (hC.cell yl).trans y4
      have yl' := Nat.lt_of_lt_of_le yl hC.size
      refine wpAt rfl rfl fun K hK => ?_
      go_simp
      exact hK _ _ ⟨hC, fun d hd hs h => pstR3_keep ⟨by decide, by decide⟩ (Keep.refl _ _) d _ h, _, rfl, rfl⟩
    · have h3 : σ 3 = .slice M.oA n M.cA := HK.post 3 (by kernel_rfl)
      rw [h3]
      refine wpAt rfl rfl fun K hK => ?_
      go_simp
      exact hK _ _ ⟨hC, fun d hd hs h => pstR3_keep ⟨by decide, by decide⟩ (Keep.refl _ _) d _ h, _, rfl, rfl⟩
    · refine wpAt rfl rfl fun K hK => ?_
      go_simp
      exact hK _ _ ⟨hC, fun d hd hs h => pstR3_keep ⟨by decide, by decide⟩ (Keep.refl _ _) d _ h, _, rfl, rfl⟩
    · have h5 : σ 5 = .pointer (some ⟨b, 0, none⟩) := HK.post 5 (by kernel_rfl)
      rw [h5]
      have yl' := Nat.lt_of_lt_of_le yl hC.size
      refine wpAt rfl rfl fun K hK => ?_
      go_simp
      exact hK _ _ ⟨hC, fun d hd hs h => pstR3_keep ⟨by decide, by decide⟩ (Keep.refl _ _) d _ h, _, rfl, rfl⟩
    · have h6 : σ 6 = .pointer (some ⟨b, 0, none⟩) := HK.post 6 (by kernel_rfl)
      rw [h6]
      have yl' := Nat.lt_of_lt_of_le yl hC.size
      refine wpAt rfl rfl fun K hK => ?_
      go_simp
      exact hK _ _ ⟨hC, fun d hd hs h => pstR3_keep ⟨by decide, by decide⟩ (Keep.refl _ _) d _ h, _, rfl, rfl⟩
    · have h7 : σ 7 = .pointer (some ⟨b, 5, none⟩) := HK.post 7 (by kernel_rfl)
      rw [h7]
      have y5' := (hC.cell yl).trans y5
      have yl' := Nat.lt_of_lt_of_le yl hC.size
      refine wpAt rfl rfl fun K hK => ?_
      go_simp
      exact hK _ _ ⟨hC, fun d hd hs h => pstR3_keep ⟨by decide, by decide⟩ (Keep.refl _ _) d _ h, _, rfl, rfl⟩
    · have h4 : σ 4 = .int .i64 (n : Int) := HK.post 4 (by kernel_rfl)
      rw [h4]
      have h8 : σ 8 = .slice M.oC nC M.cC := HK.post 8 (by kernel_rfl)
      rw [h8]
      refine wpAt rfl rfl fun K hK => ?_
      go_simp
      exact hK _ _ ⟨hC, fun d hd hs h => pstR3_keep ⟨by decide, by decide⟩ (Keep.refl _ _) d _ h, _, rfl, rfl⟩
    · obtain ⟨o0, o1, o2, o3, ol⟩ := HB3.out
      have o0' := (hC.cell ol).trans o0
      have o1' := (hC.cell ol).trans o1
      have o2' := (hC.cell ol).trans o2
      have o3' := (hC.cell ol).trans o3
      have ol' := Nat.lt_of_lt_of_le ol hC.size
      refine wpAt rfl rfl fun K hK => ?_
      go_simp
      exact hK _ _ ⟨hC, fun d hd hs h => pstR3_keep ⟨by decide, by decide⟩ (Keep.refl _ _) d _ h, _, rfl, rfl⟩
    · refine wpAt rfl rfl fun K hK => ?_
      go_simp
      exact hK _ _ ⟨hC, fun d hd hs h => pstR3_keep ⟨by decide, by decide⟩ (Keep.refl _ _) d _ h, _, rfl, rfl⟩
    · have h11 : σ 11 = .pointer (some ⟨b, 0, none⟩) := HK.post 11 (by kernel_rfl)
      rw [h11]
      have yl' := Nat.lt_of_lt_of_le yl hC.size
      refine wpAt rfl rfl fun K hK => ?_
      go_simp
      exact hK _ _ ⟨hC, fun d hd hs h => pstR3_keep ⟨by decide, by decide⟩ (Keep.refl _ _) d _ h, _, rfl, rfl⟩
    · have h12 : σ 12 = .pointer (some ⟨b, 0, none⟩) := HK.post 12 (by kernel_rfl)
      rw [h12]
      have yl' := Nat.lt_of_lt_of_le yl hC.size
      refine wpAt rfl rfl fun K hK => ?_
      go_simp
      exact hK _ _ ⟨hC, fun d hd hs h => pstR3_keep ⟨by decide, by decide⟩ (Keep.refl _ _) d _ h, _, rfl, rfl⟩
    · have h13 : σ 13 = .pointer (some ⟨b, 8, none⟩) := HK.post 13 (by kernel_rfl)
      rw [h13]
      have y8' := (hC.cell yl).trans y8
      have yl' := Nat.lt_of_lt_of_le yl hC.size
      refine wpAt rfl rfl fun K hK => ?_
      go_simp
      exact hK _ _ ⟨hC, fun d hd hs h => pstR3_keep ⟨by decide, by decide⟩ (Keep.refl _ _) d _ h, _, rfl, rfl⟩
    · refine wpAt rfl rfl fun K hK => ?_
      go_simp
      exact hK _ _ ⟨hC, fun d hd hs h => pstR3_keep ⟨by decide, by decide⟩ (Keep.refl _ _) d _ h, _, rfl, rfl⟩
    · have h15 : σ 15 = .pointer (some ⟨b, 0, none⟩) := HK.post 15 (by kernel_rfl)
      rw [h15]
      have yl' := Nat.lt_of_lt_of_le yl hC.size
      refine wpAt rfl rfl fun K hK => ?_
      go_simp
      exact hK _ _ ⟨hC, fun d hd hs h => pstR3_keep ⟨by decide, by decide⟩ (Keep.refl _ _) d _ h, _, rfl, rfl⟩
    · have h16 : σ 16 = .pointer (some ⟨b, 0, none⟩) := HK.post 16 (by kernel_rfl)
      rw [h16]
      have yl' := Nat.lt_of_lt_of_le yl hC.size
      refine wpAt rfl rfl fun K hK => ?_
      go_simp
      exact hK _ _ ⟨hC, fun d hd hs h => pstR3_keep ⟨by decide, by decide⟩ (Keep.refl _ _) d _ h, _, rfl, rfl⟩
    · have h17 : σ 17 = .pointer (some ⟨b, 9, none⟩) := HK.post 17 (by kernel_rfl)
      rw [h17]
      have y9' := (hC.cell yl).trans y9
      have yl' := Nat.lt_of_lt_of_le yl hC.size
      refine wpAt rfl rfl fun K hK => ?_
      go_simp
      exact hK _ _ ⟨hC, fun d hd hs h => pstR3_keep ⟨by decide, by decide⟩ (Keep.refl _ _) d _ h, _, rfl, rfl⟩
    · have h14 : σ 14 = .int .i64 fuel := HK.post 14 (by kernel_rfl)
      rw [h14]
      have h18 : σ 18 = .int .i64 (s.used : Int) := HK.post 18 (by kernel_rfl)
      rw [h18]
      obtain ⟨hf1, hf2⟩ := HFU.out
      refine wpAt rfl rfl fun K hK => ?_
      go_simp
      exact hK _ _ ⟨hC, fun d hd hs h => pstR3_keep ⟨by decide, by decide⟩ (Keep.refl _ _) d _ h, _, rfl, congrArg (Value.int .i64) (IntWalk.i64_in _ HFU.out)⟩
    · have h9 : σ 9 = .agg #[.int .i64 (n : Int), .slice M.oC nC M.cC] := HK.post 9 (by kernel_rfl)
      rw [h9]
      have h10 : σ 10 = .agg #[.int .i64 ph.a, .int .i64 ph.b, .int .i64 ph.c, .int .i64 ph.d] := HK.post 10 (by kernel_rfl)
      rw [h10]
      have h19 : σ 19 = .int .i64 (fuel - (s.used : Int)) := HK.post 19 (by kernel_rfl)
      rw [h19]
      refine wpAt rfl rfl fun K hK => ?_
      go_simp
      refine (CD.out _ hC).mono ?_
      intro e w2 ha
      obtain ⟨hk2, A2, rfl, hA2⟩ := ha.cells (base := wA.heap.size) hC.size
      exact hK _ _ ⟨hC.both hk2, fun d hd hs h => pstR3_keep ⟨by decide, by decide⟩ (hk2) d _ h, _, rfl, ⟨A2, rfl, hA2⟩⟩
    · obtain ⟨A2, e1, hA2⟩ := HK.post 20 (by kernel_rfl)
      rw [e1]
      refine wpAt rfl rfl fun K hK => ?_
      go_simp
      exact hK _ _ ⟨hC, fun d hd hs h => pstR3_keep ⟨by decide, by decide⟩ (Keep.refl _ _) d _ h, _, rfl, ⟨A2, rfl, hA2⟩⟩
    · obtain ⟨A2, e1, hA2⟩ := HK.post 21 (by kernel_rfl)
      rw [e1]
      refine wpAt rfl rfl fun K hK => ?_
      go_simp
      exact hK _ _ ⟨hC, fun d hd hs h => pstR3_keep ⟨by decide, by decide⟩ (Keep.refl _ _) d _ h, _, rfl, ⟨A2, rfl, hA2⟩⟩
    · obtain ⟨A2, e1, hA2⟩ := HK.post 21 (by kernel_rfl)
      rw [e1]
      refine wpAt rfl rfl fun K hK => ?_
      go_simp
      exact hK _ _ ⟨hC, fun d hd hs h => pstR3_keep ⟨by decide, by decide⟩ (Keep.refl _ _) d _ h, _, rfl, rfl⟩
    · refine wpAt rfl rfl fun K hK => ?_
      go_simp
      exact hK _ _ ⟨hC.alloc _, fun d hd hs h => pstR3_keep ⟨by decide, by decide⟩ ((Keep.refl _ _).alloc _) d _ h, _, rfl, ⟨w1.heap.size, rfl, hC.size, ⟨_, heap_alloc_at _ _ _ rfl⟩, fun _ => blk_at _ _ rfl, fun hm => by rw [markS_other (by omega), HK.down 26 (by kernel_rfl)] at hm; cases hm⟩⟩
    · refine wpAt rfl rfl fun K hK => ?_
      go_simp
      exact hK _ _ ⟨hC.alloc _, fun d hd hs h => pstR3_keep ⟨by decide, by decide⟩ ((Keep.refl _ _).alloc _) d _ h, _, rfl, ⟨w1.heap.size, rfl, hC.size, ⟨_, heap_alloc_at _ _ _ rfl⟩, blk_at _ _ rfl⟩⟩
    · obtain ⟨A2, e1, hA2⟩ := HK.post 22 (by kernel_rfl)
      rw [e1]
      obtain ⟨gg, rfl, hbo⟩ := hA2
      obtain ⟨b2, e2, g2, t1, h1, _⟩ := HK.post 24 (by kernel_rfl)
      have h1 := h1 HK.self
      rw [e2]
      have p0 := h1.cell 0
      have p1 := h1.cell 1
      have p2 := h1.cell 2
      have p3 := h1.cell 3
      have p4 := h1.cell 4
      have f0 := h1.free 0
      have f1 := h1.free 1
      have f2 := h1.free 2
      have f3 := h1.free 3
      have f4 := h1.free 4
      have pl := h1.lt
      simp at p0 p1 p2 p3 p4
      refine wpAt rfl rfl fun K hK => ?_
      go_simp
      refine hK _ _ ⟨?_, ?_, undef, ?_, ?_⟩
      · exact keep5 hC g2 _ _ _ _ _
      · intro d hd hs h
        have o := set5_B t1 ⟨by decide, by decide⟩ (.int .i64 1) (.slice (some ⟨gg, 0, none⟩) n n) (.slice none 0 0) (.slice none 0 0) (.int .i64 (u : Int))
        refine pstR3_s26 e2 g2 t1 o (((((h1.set 0 _).set 1 _).set 2 _).set 3 _).set 4 _) ?_ d hd h
        exact ⟨gg, rfl, hbo.fr o.fr⟩
      · rfl
      · trivial
    · have h23 : σ 23 = fa0 := HK.post 23 (by kernel_rfl)
      rw [h23]
      obtain ⟨b2, e2, g2, t1, h1⟩ := HK.post 25 (by kernel_rfl)
      rw [e2]
      unfold fa0
      obtain ⟨p0, p1, f0, f1, pl⟩ := h1.two
      refine wpAt rfl rfl fun K hK => ?_
      go_simp
      refine hK _ _ ⟨?_, ?_, undef, ?_, ?_⟩
      · exact keep2 hC g2 _ _
      · intro d hd hs h
        exact pstR3_s27 e2 g2 t1 (set2_B t1 ⟨by decide, by decide⟩ _ _) ((h1.set 0 _).set 1 _) d hd h
      · rfl
      · trivial
  · intro S σ w9 hC hS hP
    have hC : Keep NoS wA w9 := hC
    obtain ⟨b5, e24, g5, t5, -, hA5⟩ : ∃ b', σ 24 = .pointer (some ⟨b', 0, none⟩) ∧ wA.heap.size ≤ b' ∧ TyB w9 b' TAn ∧ (S 26 = false → Blk w9 b' #[.int .i64 0, .slice none 0 0, .slice none 0 0, .slice none 0 0, .int .i64 0]) ∧ (S 26 = true → ∃ A, Blk w9 b' A ∧ AnsC n wA.heap.size (.yes T u) A w9) := hP 24 (by show 24 < 28; omega)
    obtain ⟨A5, hB5, hC5⟩ := hA5 (hS 26 (by show 26 < 28; omega))
    obtain ⟨b6, e25, g6, t6, hB6⟩ : ∃ b', σ 25 = .pointer (some ⟨b', 0, none⟩) ∧ wA.heap.size ≤ b' ∧ TyB w9 b' TFa ∧ Blk w9 b' #[.int .i64 0, .int .i64 0] := hP 25 (by show 25 < 28; omega)
    have T5 := Lib.hid t5
    have T6 := Lib.hid t6
    have HB5 := Lib.hid hB5
    have HB6 := Lib.hid hB6
    have HC5 := Lib.hid hC5
    have KC := Lib.hid hC
    have HS9 := Lib.hid (HSA.out.keep hC)
    have FN9 := Lib.hid (FNA.out.trans (FrN.of hC))
    have HB49 := Lib.hid ((hC.block (b3 + 1) (lt_of_heap HB4.out) fun _ h => h).trans HB4.out)
    have HG5 := Lib.hid g5
    rw [e24, e25]
    refine NoPanic.normal ?_
    clear hC hS hP hA5 e24 e25 t5 t6 hB5 hB6 hC5 y4 y5 y8 y9 yl CD HB3 HB4 g6
    obtain ⟨gg, rfl, hbo5⟩ := HC5.out
    have HBO5 := Lib.hid hbo5
    clear hbo5 HC5
    have c0 := HB6.out.cell 0
    have cl := HB6.out.lt
    simp at c0
    go_upto_region 6 with fail
    clear c0 cl
    obtain ⟨y0, y1, y2, y3, y4, y5, y6, y7, y8, y9, yl⟩ := svC_cells HS9.out.bk
    have a4 : w9.cell? ⟨b5, 4, none⟩ = some (.int .i64 (u : Int)) := HB5.out.cell 4
    have al := HB5.out.lt
    have fr9 : w9.frozen? ⟨b, 9, none⟩ = false := free_of_heap HS9.out.bk
    have hub : (-9223372036854775808 : Int) ≤ (s.used : Int) + (u : Int) ∧ (s.used : Int) + (u : Int) ≤ 9223372036854775807 := by have := HFU2.out; omega
    have HUB := Lib.hid hub
    clear y0 y1 y2 y3 y4 y5 y6 y7 y8 hub
    refine wp_region_by (fun w' => Keep NoS w9 w') [9] [([0, 1, 2, 3, 4, 5, 6, 7, 8], 9)] [] (by kernel_rfl) (by kernel_rfl) (Keep.refl _ _).drew ?_
    intro X W hne hF hcl
    have HCL := Lib.hid hcl
    have z9 := fun x => ((hF x).cell yl).trans y9
    have za := fun x => ((hF x).cell al).trans a4
    have zl := fun x => Nat.lt_of_lt_of_le yl (hF x).size
    have zm := fun x => Nat.lt_of_lt_of_le al (hF x).size
    clear hF hcl
    simp only [wpPlan, pickOps, List.getElem?_toArray, List.getElem?_cons_zero, List.getElem?_cons_succ, clsOf, Bool.false_eq_true, if_false]
    (repeat (quiet_step (fail))); refine wpQuiet_nil ?_
    refine wpAt rfl rfl fun K hK => ?_
    go_simp
    refine hK _ _ ⟨fun h => (by simp at h), ?_⟩
    clear hK z9 za zl zm HCL
    (repeat (quiet_step (fail))); refine wpQuiet_nil ?_
    refine NoPanic.normal ?_
    have hwr : IntKind.i64.wrap ((s.used : Int) + (u : Int)) = ((s.used + u : Nat) : Int) := by rw [IntWalk.i64_in _ HUB.out]; omega
    rw [hwr]
    clear hwr y9 yl a4 al fr9 HUB
    obtain ⟨w10, hw10⟩ : ∃ w10 : World, w10 = (w9.setCell ⟨b, 9, none⟩ (.int .i64 ((s.used + u : Nat) : Int))).drew := ⟨_, rfl⟩
    rw [← hw10]
    have kd : Keep NoS (w9.setCell ⟨b, 9, none⟩ (.int .i64 ((s.used + u : Nat) : Int))) w10 := by rw [hw10]; exact (Keep.refl _ _).drew
    have HS10 := Lib.hid ((HS9.out.used1 (s.used + u)).keep kd)
    have o10 : OneB w9 (w9.setCell ⟨b, 9, none⟩ (.int .i64 ((s.used + u : Nat) : Int))) b TSv := (OneB.refl (svT HS9.out)).set ⟨by decide, by decide⟩ 9 _
    have FN10 := Lib.hid ((FN9.out.sv (svT HS9.out) 9 (.int .i64 ((s.used + u : Nat) : Int))).trans (FrN.of kd))
    have HGW : Hid (w.heap.size ≤ b3 + 1) := Lib.hid (by have := HW3.out; omega)
    have hn5 : b5 ≠ b := tyB_ne T5.out (svT HS9.out) (by decide)
    have hn4 : b3 + 1 ≠ b := tyB_ne ⟨_, HB49.out⟩ (svT HS9.out) (by decide)
    have HB510 := Lib.hid (Blk.keep (show Blk (w9.setCell ⟨b, 9, none⟩ (.int .i64 ((s.used + u : Nat) : Int))) b5 _ from HB5.out.setOther 9 _ hn5) kd)
    have HB410 := Lib.hid ((kd.block (b3 + 1) (lt_of_heap ((o10.other (b3 + 1) hn4).trans HB49.out)) fun _ h => h).trans ((o10.other (b3 + 1) hn4).trans HB49.out))
    have HBO10 := Lib.hid ((HBO5.out.fr o10.fr).fr (FrI.of kd))
    have HB5T : Hid (w10.heap[b5]? = some (.cells #[.int .i64 1, .slice (some ⟨gg, 0, none⟩) n n, .slice none 0 0, .slice none 0 0, .int .i64 (u : Int)] TAn (0, 0))) := Lib.hid (by
      obtain ⟨A, hA⟩ := T5.out
      obtain ⟨t, ht⟩ := HB5.out
      rw [hA] at ht
      injection ht with ht
      injection ht with q1 q2
      subst q1
      exact (kd.block b5 (lt_of_heap ((o10.other b5 hn5).trans hA)) fun _ h => h).trans ((o10.other b5 hn5).trans hA))
    clear hw10 kd o10 hn5 hn4 HB5 HB49 HBO5 HS9 T5 T6 HB6 HB510
    have a0 : w10.cell? ⟨b5, 0, none⟩ = some (.int .i64 1) := cell_of_heap (o := 0) HB5T.out rfl
    have a1 : w10.cell? ⟨b5, 1, none⟩ = some (.slice (some ⟨gg, 0, none⟩) n n) := cell_of_heap (o := 1) HB5T.out rfl
    have al := lt_of_heap HB5T.out
    have hhl : (Sv.holdsT f.atoms.length T).length = f.atoms.length := by simp [Sv.holdsT]
    have CTH := Lib.hid (things_any w0 w10 b L f fuel M ⟨s.cls, s.steps, s.used + u⟩ gg (Sv.holdsT f.atoms.length T) HS10.out HF.out HOK.out (by rw [HN.out]; exact HBO10.out) hhl (by have := HC4.out; simp only; omega) (by have := HS1.out; simp only; omega))
    have HR : Hid (roundF f fuel.toNat s (.yes T u) = match Sv.violF f (Sv.holdsT f.atoms.length T) with
      | some c => if s.used + u = fuel.toNat then .done 3 else .next ⟨s.cls ++ [c], s.steps ++ [⟨3, c⟩], s.used + u + 1⟩
      | none => if Sv.holdsF f (Sv.holdsT f.atoms.length T) (Sv.classOf f (Sv.holdsT f.atoms.length T)) = true then .done 1 else .done 3) := Lib.hid rfl
    have HCK := Lib.hid (class_okS HOK.out (holds := Sv.holdsT f.atoms.length T))
    have HVT := Lib.hid (viol_terms HOK.out (holds := Sv.holdsT f.atoms.length T))
    have HBOS : Hid (BoolsT w10 gg (Sv.holdsT f.atoms.length T)) := Lib.hid (by rw [HN.out]; exact HBO10.out)
    clear HBO10
    generalize Sv.holdsT f.atoms.length T = holds at *
    unfold ThP at CTH
    rw [HN.out] at CTH
    go_upto_region 16 with fail
    go_wp2_with fail
    refine CTH.out.mono ?_
    rintro e w11 ⟨hfr, M', m1, m2, hth⟩
    have FR := Lib.hid hfr
    have M1 := Lib.hid m1
    have M2 := Lib.hid m2
    have FN11 := Lib.hid (FN10.out.trans hfr)
    clear hfr m1 m2 CTH a0 a1 al
    have HB411 := Lib.hid (FR.out.at' (b3 + 1) _ TVd HB410.out (by decide) (by decide) (by decide))
    have HB511 := Lib.hid (FR.out.at' b5 _ TAn HB5T.out (by decide) (by decide) (by decide))
    have HBO11 := Lib.hid (HBOS.out.fr FR.out.fr)
    clear HB410 HB5T HBOS HS10
    rcases hv : Sv.violF f holds with _ | c
    case some =>
      rw [hv] at hth HR
      obtain ⟨rfl, hs11⟩ := hth
      have HS11 := Lib.hid hs11
      have HNT := Lib.hid (HVT.out c hv)
      clear hs11 hv HCK HVT
      obtain ⟨y0, y1, y2, y3, y4, y5, y6, y7, y8, y9, yl⟩ := svC_cells HS11.out.bk
      simp only at y9
      clear y1 y2 y3 y4 y5 y6 y7
      have hnt : ((f.terms.length : Int) == 0) = false := by rw [beq_eq_false_iff_ne]; have := HNT.out; omega
      have e1 : ∀ w, Sem.run Tryz.prog (binOp BinOp.neq 22 (.slice none 0 0) (.slice none 0 0)) w = .ok (.bool false) w := fun w => by kernel_rfl
      obtain ⟨p0, p1, p2, p3, p4, p5, q0, q1, q2, q3, q4, q5, pl⟩ := vdC_cells (⟨_, HB411.out⟩ : Blk _ _ _)
      have T4 : Hid (TyB w11 (b3 + 1) TVd) := Lib.hid ⟨_, HB411.out⟩
      have hfu0 := HFU2.out.1
      generalize f.terms.length = nt at *
      go_upto_region 28 with fail
      by_cases huf : s.used + u = fuel.toNat
      case pos =>
        have e2 : (((s.used + u : Nat) : Int) == fuel) = true := by rw [beq_iff_eq]; omega
        have e3 : ((s.used : Int) + (u : Int) == fuel) = true := by rw [beq_iff_eq]; omega
        have HRR : Hid (roundF f fuel.toNat s (.yes T u) = .done 3) := Lib.hid (HR.out.trans (if_pos huf))
        clear huf HR hfu0
        go_quiet (fail)
        go_wp2
        refine bodyPost_ret (by simp [results, Tryz.results26, go_sem, p0, p1, p2, p3, p4, p5, pl]; rfl) rfl ?_
        rw [HQ.out, HRR.out]
        exact RdP.hungry (keep6 (HS11.out.k.drewN nq) HG4.out _ _ _ _ _ _) ((FN11.out.trans (FrN.of ((Keep.refl _ _).drewN nq))).new6 HGW.out _ _ _ _ _ _) _
      case neg =>
        have e2 : (((s.used + u : Nat) : Int) == fuel) = false := by rw [beq_eq_false_iff_ne]; omega
        have e3 : ((s.used : Int) + (u : Int) == fuel) = false := by rw [beq_eq_false_iff_ne]; omega
        have HRR : Hid (roundF f fuel.toNat s (.yes T u) = .next ⟨s.cls ++ [c], s.steps ++ [⟨3, c⟩], s.used + u + 1⟩) := Lib.hid (HR.out.trans (if_neg huf))
        have fr9 : w11.frozen? ⟨b, 9, none⟩ = false := free_of_heap HS11.out.bk
        have hub := HFU2.out
        clear huf HR hfu0
        go_quiet (fail)
        go_wp2
        refine bodyPost_ret (by simp [results, Tryz.results26, go_sem, p0, p1, p2, p3, p4, p5, pl]; rfl) rfl ?_
        rw [HQ.out, HRR.out]
        have hn4 : b3 + 1 ≠ b := tyB_ne T4.out (svT HS11.out) (by decide)
        have kn : Keep NoS w11 (w11.drewN nq) := (Keep.refl _ _).drewN _
        have hs12 := (HS11.out.keep kn).used1 (s.used + u + 1)
        simp only at hs12
        have ec : ((s.used + u + 1 : Nat) : Int) = (s.used : Int) + (u : Int) + 1 := by omega
        rw [ec] at hs12
        have t4 : TyB ((w11.drewN nq).setCell ⟨b, 9, none⟩ (.int .i64 ((s.used : Int) + (u : Int) + 1))) (b3 + 1) TVd := (T4.out.keep kn).other hn4 9 _
        exact ⟨keep6 hs12.k HG4.out _ _ _ _ _ _, ((FN11.out.trans (FrN.of kn)).sv (svT (HS11.out.keep kn)) 9 _).new6 HGW.out _ _ _ _ _ _, rfl, M', hs12.one t4 (set6_B t4 ⟨by decide, by decide⟩ _ _ _ _ _ _) (keep6 hs12.k HG4.out _ _ _ _ _ _) (by decide) (by decide) (by decide) (by decide)⟩
    case none =>
      rw [hv] at hth HR
      obtain ⟨gc, rfl, hgc, hs11⟩ := hth
      have HS11 := Lib.hid hs11
      have HGC := Lib.hid hgc
      clear hs11 hgc hv HVT
      have e1 : ∀ w, Sem.run Tryz.prog (binOp BinOp.neq 22 (.slice (some ⟨gc, 0, none⟩) f.terms.length f.terms.length) (.slice none 0 0)) w = .ok (.bool true) w := fun w => rfl
      have CPA := Lib.hid (parts_any w0 w11 b L f fuel M' _ (.slice (some ⟨gg, 0, none⟩) n n) HS11.out HOK.out)
      have a1 : w11.cell? ⟨b5, 1, none⟩ = some (.slice (some ⟨gg, 0, none⟩) n n) := cell_of_heap (o := 1) HB511.out rfl
      have al := lt_of_heap HB511.out
      go_upto_region 18 with fail
      go_wp2_with fail
      refine CPA.out.mono ?_
      rintro e w12 ⟨rfl, hk12⟩
      have K12 := Lib.hid hk12
      have a1 := (hk12.cell al).trans a1
      have al := Nat.lt_of_lt_of_le al hk12.size
      have CNU := Lib.hid (numbers_any w0 w12 b L f fuel M' _ (.slice (some ⟨gg, 0, none⟩) n n) (HS11.out.keep hk12) HOK.out)
      clear hk12 CPA
      go_wp2_with fail
      refine CNU.out.mono ?_
      rintro e w13 ⟨rfl, hk13⟩
      have K13 := Lib.hid (K12.out.both hk13)
      have a1 := (hk13.cell al).trans a1
      have al := Nat.lt_of_lt_of_le al hk13.size
      clear hk13 CNU K12
      have HS13 := Lib.hid (HS11.out.keep K13.out)
      have FN13 := Lib.hid (FN11.out.trans (FrN.of K13.out))
      have HB413 := Lib.hid ((K13.out.block (b3 + 1) (lt_of_heap HB411.out) fun _ h => h).trans HB411.out)
      have HBO13 := Lib.hid (HBO11.out.fr (FrI.of K13.out))
      have HGC13 := Lib.hid ((K13.out.block gc (lt_of_heap HGC.out) fun _ h => h).trans HGC.out)
      clear HB411 HB511 HBO11 HGC HS11 K13
      obtain ⟨y0, y1, y2, y3, y4, y5, y6, y7, y8, y9, yl⟩ := svC_cells HS13.out.bk
      rw [HN.out] at y2
      clear y0 y1 y3 y4 y5 y6 y7 y8 y9
      go_upto_region 23 with fail
      have hnn : (n : Int) ≤ (n : Int) := Int.le_refl _
      have hn0 : (0 : Int) ≤ (n : Int) := by omega
      have hnN : n ≤ n := Nat.le_refl _
      refine wp_region_by (fun w' => Keep NoS w13 w') [13] [([0, 1, 2, 3, 4, 5, 6, 7, 8, 9, 10, 11], 12), ([], 13)] [] (by kernel_rfl) (by kernel_rfl) (Keep.refl _ _).drew ?_
      intro X W hne hF hcl
      have HCL := Lib.hid hcl
      have z2 := fun x => ((hF x).cell yl).trans y2
      have za := fun x => ((hF x).cell al).trans a1
      have zl := fun x => Nat.lt_of_lt_of_le yl (hF x).size
      have zm := fun x => Nat.lt_of_lt_of_le al (hF x).size
      clear hF hcl
      simp only [wpPlan, pickOps, List.getElem?_toArray, List.getElem?_cons_zero, List.getElem?_cons_succ, clsOf, Bool.false_eq_true, if_false]
      (repeat (quiet_step (fail))); refine wpQuiet_nil ?_
      refine wpAt rfl rfl fun K hK => ?_
      go_simp
      have k14 : Keep NoS w13 (w13.alloc (.cells #[.slice none 0 0, .slice none 0 0, .slice none 0 0] TMd)).drew := ((Keep.refl _ _).alloc _).drew
      refine hK _ _ ⟨fun _ => HCL.out _ k14, ?_⟩
      clear hK z2 za zl zm HCL k14
      (repeat (quiet_step (fail))); refine wpQuiet_nil ?_
      refine wpAt rfl rfl fun K hK => ?_
      go_simp
      refine hK _ _ ⟨fun h => (by simp at h), ?_⟩
      clear hK
      (repeat (quiet_step (fail))); refine wpQuiet_nil ?_
      refine NoPanic.normal ?_
      obtain ⟨w15, hw15⟩ : ∃ w15 : World, w15 = (w13.alloc (.cells #[.slice (some ⟨gg, 0, none⟩) n n, .slice (some ⟨gc, 0, none⟩) f.terms.length f.terms.length, .slice none 0 0] TMd)).drew := ⟨_, rfl⟩
      rw [← hw15]
      have k15 : Keep NoS w13 w15 := by rw [hw15]; exact ((Keep.refl _ _).alloc _).drew
      have HB15 : Hid (Blk w15 w13.heap.size #[.slice (some ⟨gg, 0, none⟩) n n, .slice (some ⟨gc, 0, none⟩) f.terms.length f.terms.length, .slice none 0 0]) := Lib.hid (by rw [hw15]; exact Blk.keep (blk_at _ _ rfl) (Keep.refl _ _).drew)
      have HS15 := Lib.hid (HS13.out.keep k15)
      have FN15 := Lib.hid (FN13.out.trans (FrN.of k15))
      have HB415 := Lib.hid ((k15.block (b3 + 1) (lt_of_heap HB413.out) fun _ h => h).trans HB413.out)
      have HBO15 := Lib.hid (HBO13.out.fr (FrI.of k15))
      have HGC15 := Lib.hid ((k15.block gc (lt_of_heap HGC13.out) fun _ h => h).trans HGC13.out)
      clear HS13 HB413 HBO13 HGC13 hw15 k15 a1 al y2 yl
      generalize w13.heap.size = b14 at *
      have CHO := Lib.hid (fun w' (k : Keep NoS w15 w') => fholds_any w' L ⟨some ⟨gg, 0, none⟩, n, gc, f.terms.length, none, 0⟩ f holds (Sv.classOf f holds) ((HF.out.keep HS15.out.k).keep k) HOK.out ⟨by
        have := ((HBO15.out.fr (FrI.of k)).bools)
        rw [hhl, HN.out] at this
        show IsBools w' (.slice (some ⟨gg, 0, none⟩) f.atoms.length n) holds
        rw [HN.out]
        exact this, hhl, (k.block gc (lt_of_heap HGC15.out) fun _ h => h).trans HGC15.out, HCK.out, hn60⟩)
      unfold FmL.v MdL.v at CHO
      simp only at CHO
      rw [HN.out] at CHO
      obtain ⟨hr, hhr⟩ : ∃ hr, Sv.holdsF f holds (Sv.classOf f holds) = hr := ⟨_, rfl⟩
      have HHR := Lib.hid hhr
      rw [hhr] at CHO
      obtain ⟨y0, y1, y2, y3, y4, y5, y6, y7, y8, y9, yl⟩ := svC_cells HS15.out.bk
      rw [HN.out] at y2
      have m0 : w15.cell? ⟨b14, 0, none⟩ = some (.slice (some ⟨gg, 0, none⟩) n n) := HB15.out.cell 0
      have m1 : w15.cell? ⟨b14, 1, none⟩ = some (.slice (some ⟨gc, 0, none⟩) f.terms.length f.terms.length) := HB15.out.cell 1
      have m2 : w15.cell? ⟨b14, 2, none⟩ = some (.slice none 0 0) := HB15.out.cell 2
      have ml := HB15.out.lt
      clear y4 y5 y6 y7 y8 y9 hhr
      go_upto_region 24 with fail
      refine wp_region_inv (fun w' => Keep NoS w15 w') (pstR24 w15 b b14 (.agg #[.slice L.ot f.terms.length L.ct, .slice none 0 0, .slice L.oa n L.ca, .slice L.oc f.cls.length L.cc]) (.agg #[.slice (some ⟨gg, 0, none⟩) n n, .slice (some ⟨gc, 0, none⟩) f.terms.length f.terms.length, .slice none 0 0]) hr) (by kernel_rfl) (by kernel_rfl) (by kernel_rfl) (by kernel_rfl) (Keep.refl _ _).drew _ (fun σ => by
        show putAll _ σ [0, 1, 2, 3, 4, 5, 6, 7, 8, 9, 10, 11] _ = _
        simp only [putAll, List.getElem?_toArray, List.getElem?_cons_zero, List.getElem?_cons_succ, Act.put, List.setIfInBounds_toArray, List.set_cons_zero, List.set_cons_succ]
        rfl) ?_ ?_
      · intro S σ w1 hC e he HK
        have he : e < 12 := he
        have hC : Keep NoS w15 w1 := hC
        obtain rfl | rfl | rfl | rfl | rfl | rfl | rfl | rfl | rfl | rfl | rfl | rfl : e = 0 ∨ e = 1 ∨ e = 2 ∨ e = 3 ∨ e = 4 ∨ e = 5 ∨ e = 6 ∨ e = 7 ∨ e = 8 ∨ e = 9 ∨ e = 10 ∨ e = 11 := by omega
        · refine wpAt rfl rfl fun K hK => ?_
          go_simp
          exact hK _ _ ⟨hC, fun d hd hs h => pstR24_keep (by decide) (Keep.refl _ _) d _ h, _, rfl, rfl⟩
        · have h0 : σ 0 = .pointer (some ⟨b, 0, none⟩) := HK.post 0 (by kernel_rfl)
          rw [h0]
          have yl' := Nat.lt_of_lt_of_le yl hC.size
          refine wpAt rfl rfl fun K hK => ?_
          go_simp
          exact hK _ _ ⟨hC, fun d hd hs h => pstR24_keep (by decide) (Keep.refl _ _) d _ h, _, rfl, rfl⟩
        · have h1 : σ 1 = .pointer (some ⟨b, 0, none⟩) := HK.post 1 (by kernel_rfl)
          rw [h1]
          have yl' := Nat.lt_of_lt_of_le yl hC.size
          refine wpAt rfl rfl fun K hK => ?_
          go_simp
          exact hK _ _ ⟨hC, fun d hd hs h => pstR24_keep (by decide) (Keep.refl _ _) d _ h, _, rfl, rfl⟩
        · have h2 : σ 2 = .pointer (some ⟨b, 0, none⟩) := HK.post 2 (by kernel_rfl)
          rw [h2]
          have y0' := (hC.cell yl).trans y0
          have y1' := (hC.cell yl).trans y1
          have y2' := (hC.cell yl).trans y2
          have y3' := (hC.cell yl).trans y3
          have yl' := Nat.lt_of_lt_of_le yl hC.size
          refine wpAt rfl rfl fun K hK => ?_
          go_simp
          exact hK _ _ ⟨hC, fun d hd hs h => pstR24_keep (by decide) (Keep.refl _ _) d _ h, _, rfl, rfl⟩
        · have m0' := (hC.cell ml).trans m0
          have m1' := (hC.cell ml).trans m1
          have m2' := (hC.cell ml).trans m2
          have ml' := Nat.lt_of_lt_of_le ml hC.size
          refine wpAt rfl rfl fun K hK => ?_
          go_simp
          exact hK _ _ ⟨hC, fun d hd hs h => pstR24_keep (by decide) (Keep.refl _ _) d _ h, _, rfl, rfl⟩
        · have h3 : σ 3 = .agg #[.slice L.ot f.terms.length L.ct, .slice none 0 0, .slice L.oa n L.ca, .slice L.oc f.cls.length L.cc] := HK.post 3 (by kernel_rfl)
          rw [h3]
          have h4 : σ 4 = .agg #[.slice (some ⟨gg, 0, none⟩) n n, .slice (some ⟨gc, 0, none⟩) f.terms.length f.terms.length, .slice none 0 0] := HK.post 4 (by kernel_rfl)
          rw [h4]
          refine wpAt rfl rfl fun K hK => ?_
          go_simp
          refine (CHO.out _ hC).mono ?_
          rintro e w2 ⟨rfl, hk2⟩
          exact hK _ _ ⟨hC.both hk2, fun d hd hs h => pstR24_keep (by decide) hk2 d _ h, _, rfl, rfl⟩
        · have h5 : σ 5 = .tuple #[.bool hr, fa0] := HK.post 5 (by kernel_rfl)
          rw [h5]
          refine wpAt rfl rfl fun K hK => ?_
          go_simp
          exact hK _ _ ⟨hC, fun d hd hs h => pstR24_keep (by decide) (Keep.refl _ _) d _ h, _, rfl, rfl⟩
        · have h6 : σ 6 = .tuple #[.bool hr, fa0] := HK.post 6 (by kernel_rfl)
          rw [h6]
          refine wpAt rfl rfl fun K hK => ?_
          go_simp
          exact hK _ _ ⟨hC, fun d hd hs h => pstR24_keep (by decide) (Keep.refl _ _) d _ h, _, rfl, rfl⟩
        · have h6 : σ 6 = .tuple #[.bool hr, fa0] := HK.post 6 (by kernel_rfl)
          rw [h6]
          refine wpAt rfl rfl fun K hK => ?_
          go_simp
          exact hK _ _ ⟨hC, fun d hd hs h => pstR24_keep (by decide) (Keep.refl _ _) d _ h, _, rfl, rfl⟩
        · refine wpAt rfl rfl fun K hK => ?_
          go_simp
          exact hK _ _ ⟨hC.alloc _, fun d hd hs h => pstR24_keep (by decide) ((Keep.refl _ _).alloc _) d _ h, _, rfl, ⟨w1.heap.size, rfl, hC.size, ⟨_, heap_alloc_at _ _ _ rfl⟩, fun _ => blk_at _ _ rfl⟩⟩
        · have h7 : σ 7 = .bool hr := HK.post 7 (by kernel_rfl)
          rw [h7]
          refine wpAt rfl rfl fun K hK => ?_
          go_simp
          exact hK _ _ ⟨hC, fun d hd hs h => pstR24_keep (by decide) (Keep.refl _ _) d _ h, _, rfl, rfl⟩
        · have h8 : σ 8 = fa0 := HK.post 8 (by kernel_rfl)
          rw [h8]
          obtain ⟨b2, e1, g1, t1, h1⟩ := HK.post 9 (by kernel_rfl)
          have h1 := h1 HK.self
          rw [e1]
          unfold fa0
          obtain ⟨p0, p1, f0, f1, pl⟩ := h1.two
          refine wpAt rfl rfl fun K hK => ?_
          go_simp
          refine hK _ _ ⟨?_, ?_, undef, ?_, ?_⟩
          · exact keep_at (keep_at hC _ g1) _ g1
          · intro d hd hs h
            exact pstR24_store t1 (set2_B t1 ⟨by decide, by decide⟩ _ _) d _ hd h
          · rfl
          · trivial
      · intro S σ w16 hC hS hP
        have hC : Keep NoS w15 w16 := hC
        obtain ⟨b16, e9, -, -, -⟩ : ∃ b', σ 9 = .pointer (some ⟨b', 0, none⟩) ∧ w15.heap.size ≤ b' ∧ TyB w16 b' TFa ∧ (S 11 = false → Blk w16 b' #[.int .i64 0, .int .i64 0]) := hP 9 (by show 9 < 12; omega)
        have e10 : σ 10 = .bool hr := hP 10 (by show 10 < 12; omega)
        have HS16 := Lib.hid (HS15.out.keep hC)
        have FN16 := Lib.hid (FN15.out.trans (FrN.of hC))
        have HB416 := Lib.hid ((hC.block (b3 + 1) (lt_of_heap HB415.out) fun _ h => h).trans HB415.out)
        have HB16 := Lib.hid (HB15.out.keep hC)
        have HBO16 := Lib.hid (HBO15.out.fr (FrI.of hC))
        rw [e9, e10]
        refine NoPanic.normal ?_
        clear hC hS hP e9 e10 y0 y1 y2 y3 yl m0 m1 m2 ml CHO HS15 HB415 HB15 HBO15 HGC15
        obtain ⟨y0, y1, y2, y3, y4, y5, y6, y7, y8, y9, yl⟩ := svC_cells HS16.out.bk
        simp only at y9
        clear y0 y1 y2 y3 y4 y5 y6 y7 y8
        obtain ⟨p0, p1, p2, p3, p4, p5, q0, q1, q2, q3, q4, q5, pl⟩ := vdC_cells (⟨_, HB416.out⟩ : Blk _ _ _)
        have T4 : Hid (TyB w16 (b3 + 1) TVd) := Lib.hid ⟨_, HB416.out⟩
        cases hr
        case false =>
          have HRR : Hid (roundF f fuel.toNat s (.yes T u) = .done 3) := Lib.hid (HR.out.trans (by
            show (if Sv.holdsF f holds (Sv.classOf f holds) = true then RdR.done 1 else RdR.done 3) = _
            rw [HHR.out]; rfl))
          go_wp2
          refine bodyPost_ret (by simp [results, Tryz.results26, go_sem, p0, p1, p2, p3, p4, p5, pl]; rfl) rfl ?_
          rw [HQ.out, HRR.out]
          exact RdP.hungry (keep6 HS16.out.k HG4.out _ _ _ _ _ _) (FN16.out.new6 HGW.out _ _ _ _ _ _) _
        case true =>
          have HRR : Hid (roundF f fuel.toNat s (.yes T u) = .done 1) := Lib.hid (HR.out.trans (by
            show (if Sv.holdsF f holds (Sv.classOf f holds) = true then RdR.done 1 else RdR.done 3) = _
            rw [HHR.out]; rfl))
          have m0 : w16.cell? ⟨b14, 0, none⟩ = some (.slice (some ⟨gg, 0, none⟩) n n) := HB16.out.cell 0
          have m1 : w16.cell? ⟨b14, 1, none⟩ = some (.slice (some ⟨gc, 0, none⟩) f.terms.length f.terms.length) := HB16.out.cell 1
          have m2 : w16.cell? ⟨b14, 2, none⟩ = some (.slice none 0 0) := HB16.out.cell 2
          have ml := HB16.out.lt
          go_upto_region 27 with fail
          refine wp_region_by (fun w' => Keep NoS w16 w') [6] [([0, 1, 2, 3, 4, 5], 6)] [] (by kernel_rfl) (by kernel_rfl) (Keep.refl _ _).drew ?_
          intro X W hne hF hcl
          have HCL := Lib.hid hcl
          have z9 := fun x => ((hF x).cell yl).trans y9
          have n0 := fun x => ((hF x).cell ml).trans m0
          have n1 := fun x => ((hF x).cell ml).trans m1
          have n2 := fun x => ((hF x).cell ml).trans m2
          have zl := fun x => Nat.lt_of_lt_of_le yl (hF x).size
          have zm := fun x => Nat.lt_of_lt_of_le ml (hF x).size
          clear hF hcl
          simp only [wpPlan, pickOps, List.getElem?_toArray, List.getElem?_cons_zero, List.getElem?_cons_succ, clsOf, Bool.false_eq_true, if_false]
          (repeat (quiet_step (fail))); refine wpQuiet_nil ?_
          refine wpAt rfl rfl fun K hK => ?_
          go_simp
          refine hK _ _ ⟨fun h => (by simp at h), ?_⟩
          clear hK z9 n0 n1 n2 zl zm HCL
          (repeat (quiet_step (fail))); refine wpQuiet_nil ?_
          refine NoPanic.normal ?_
          have q6 := set6_B T4.out ⟨by decide, by decide⟩ (.int .i64 1) (.slice (some ⟨gg, 0, none⟩) n n) (.slice (some ⟨gc, 0, none⟩) f.terms.length f.terms.length) (.slice none 0 0) (.slice none 0 0) (.int .i64 ((s.used : Int) + (u : Int)))
          have hbl : Blk w16 (b3 + 1) (vdC 0 (.slice none 0 0) (.slice none 0 0) (.slice none 0 0) 0) := ⟨_, HB416.out⟩
          obtain ⟨w17, hw17⟩ : ∃ w17 : World, w17 = ((((((w16.setCell ⟨b3 + 1, 0, none⟩ (.int .i64 1)).setCell ⟨b3 + 1, 1, none⟩ (.slice (some ⟨gg, 0, none⟩) n n)).setCell ⟨b3 + 1, 2, none⟩ (.slice (some ⟨gc, 0, none⟩) f.terms.length f.terms.length)).setCell ⟨b3 + 1, 3, none⟩ (.slice none 0 0)).setCell ⟨b3 + 1, 4, none⟩ (.slice none 0 0)).setCell ⟨b3 + 1, 5, none⟩ (.int .i64 ((s.used : Int) + (u : Int)))).drew := ⟨_, rfl⟩
          rw [← hw17]
          have k17 : Keep NoS ((((((w16.setCell ⟨b3 + 1, 0, none⟩ (.int .i64 1)).setCell ⟨b3 + 1, 1, none⟩ (.slice (some ⟨gg, 0, none⟩) n n)).setCell ⟨b3 + 1, 2, none⟩ (.slice (some ⟨gc, 0, none⟩) f.terms.length f.terms.length)).setCell ⟨b3 + 1, 3, none⟩ (.slice none 0 0)).setCell ⟨b3 + 1, 4, none⟩ (.slice none 0 0)).setCell ⟨b3 + 1, 5, none⟩ (.int .i64 ((s.used : Int) + (u : Int)))) w17 := by rw [hw17]; exact (Keep.refl _ _).drew
          have HB17 : Hid (Blk w17 (b3 + 1) (vdC 1 (.slice (some ⟨gg, 0, none⟩) n n) (.slice (some ⟨gc, 0, none⟩) f.terms.length f.terms.length) (.slice none 0 0) ((s.used : Int) + (u : Int)))) := Lib.hid (Blk.keep ((((((hbl.set 0 _).set 1 _).set 2 _).set 3 _).set 4 _).set 5 _) k17)
          have HBO17 := Lib.hid ((HBO16.out.fr q6.fr).fr (FrI.of k17))
          have FN17 := Lib.hid ((FN16.out.new6 HGW.out (.int .i64 1) (.slice (some ⟨gg, 0, none⟩) n n) (.slice (some ⟨gc, 0, none⟩) f.terms.length f.terms.length) (.slice none 0 0) (.slice none 0 0) (.int .i64 ((s.used : Int) + (u : Int)))).trans (FrN.of k17))
          have K17 : Hid (Keep NoS w0 w17) := Lib.hid ((keep6 HS16.out.k HG4.out _ _ _ _ _ _).both k17)
          clear hw17 k17 q6 hbl p0 p1 p2 p3 p4 p5 q0 q1 q2 q3 q4 q5 pl m0 m1 m2 ml y9 yl
          obtain ⟨p0, p1, p2, p3, p4, p5, q0, q1, q2, q3, q4, q5, pl⟩ := vdC_cells HB17.out
          go_wp2
          refine bodyPost_ret (by simp [results, Tryz.results26, go_sem, p0, p1, p2, p3, p4, p5, pl]; rfl) rfl ?_
          rw [HQ.out, HRR.out]
          have hnh : holds.length = n := hhl.trans HN.out
          have hsrc := (HBO17.out.bools).srcG
          rw [hnh] at hsrc
          exact ⟨K17.out, FN17.out, some ⟨gg, 0, none⟩, n, n, holds, some ⟨gc, 0, none⟩, f.terms.length, f.terms.length, none, 0, [], (s.used : Int) + (u : Int), rfl, hsrc, by omega, steps_nil _, by simp, fun x hx => by cases hx⟩
end Go.Proofs.YtnndmdfjdodiiaaGreat
