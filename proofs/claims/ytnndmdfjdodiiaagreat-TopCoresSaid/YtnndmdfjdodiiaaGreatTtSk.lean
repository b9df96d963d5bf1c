/- Package solve: Do. -/
import Derived.Test.YtnndmdfjdodiiaaGreatTtSi
import Derived.Test.YtnndmdfjdodiiaaGreatTtSj
namespace Go.Proofs.YtnndmdfjdodiiaaGreat
open Go.ChangeShapes Go.WideShapes Go.RowKit Go.Maps
set_option linter.unusedVariables false
set_option linter.unusedSimpArgs false

/-- The state in the end. -/
def runS (f : Sv.Frm) (ph : Bool) (fuel : Nat) : Nat → Sv.SvS → Int
  | 0, _ => 3
  | n + 1, s => match roundF f fuel s (Sv.doC f.atoms.length ph (fuel - s.used) s.cls) with
    | .done st => st
    | .next s' => runS f ph fuel n s'
/-- What holds ahead of a round. -/
structure RndI (f : Sv.Frm) (ph : OpO) (fuel : Int) (s : Sv.SvS) : Prop where
  cl : s.cls.length ≤ 400
  sl : s.steps.length ≤ 1000
  k : ∀ x ∈ s.steps, StOK f.atoms.length x
  u : (s.used : Int) < fuel
  a : (∃ T u, Sv.doC f.atoms.length (ph.d == 1) (fuel.toNat - s.used) s.cls = .yes T u ∧ u ≤ 2000) ∨ ∃ st u, Sv.doC f.atoms.length (ph.d == 1) (fuel.toNat - s.used) s.cls = .no st u ∧ u ≤ 2000 ∧ (∀ c ∈ st, ValidC f.atoms.length c) ∧ st.length ≤ 1000
  cd : ∀ w' oc cc, IsCls w' (.slice oc s.cls.length cc) s.cls → Calls Tryz.prog 39 #[.agg #[.int .i64 (f.atoms.length : Int), .slice oc s.cls.length cc], .slice none 0 0, .agg #[.int .i64 ph.a, .int .i64 ph.b, .int .i64 ph.c, .int .i64 ph.d], .int .i64 (fuel - (s.used : Int))] w' (AnsP f.atoms.length (Sv.doC f.atoms.length (ph.d == 1) (fuel.toNat - s.used) s.cls) w')
theorem round_any (w0 w : World) (b : Nat) (L : FmL) (f : Sv.Frm) (fuel : Int) (M : SvM) (s : Sv.SvS) (ph : OpO) (h : SvL w0 w b L f fuel M s) (hF : IsForm w0 L f) (hok : FmOK f) (hf : fuel ≤ 2000) (hI : RndI f ph fuel s) :
    Calls Tryz.prog 26 #[.pointer (some ⟨b, 0, none⟩), .agg #[.int .i64 ph.a, .int .i64 ph.b, .int .i64 ph.c, .int .i64 ph.d]] w (RdP w0 w b L f fuel (roundF f fuel.toNat s (Sv.doC f.atoms.length (ph.d == 1) (fuel.toNat - s.used) s.cls))) := by
  have hcd := hI.cd
  rcases hI.a with ⟨T, u, e, hu⟩ | ⟨st, u, e, hu, hst, hl⟩
  · rw [e] at hcd ⊢
    exact round_yes w0 w b L f fuel M s ph T u h hF hok hI.cl hI.sl hI.k ⟨hI.u, hf⟩ hu hcd
  · rw [e] at hcd ⊢
    exact round_no w0 w b L f fuel M s ph st u h hF hok hI.cl hI.sl hI.k ⟨hI.u, hf⟩ hu hst hl hcd
theorem round_done {f : Sv.Frm} {fuel : Nat} {s : Sv.SvS} {a : Cd.Ans} {st : Int} (h : roundF f fuel s a = .done st) : st ≠ 0 := by
  rcases a with ⟨T, u⟩ | ⟨l, u⟩ | u
  · unfold roundF at h
    simp only at h
    split at h
    · split at h
      · cases h; decide
      · cases h
    · split at h <;> (cases h; decide)
  · unfold roundF at h
    simp only at h
    split at h <;> (cases h; decide)
  · cases h; decide
def pstK7 (wA : World) (L : FmL) (f : Sv.Frm) (b3 : Nat) (fuel : Int) (S : Nat → Bool) : Nat → Value → World → Prop
  | 0, v, _ => v = .agg #[.slice L.ot f.terms.length L.ct, .slice none 0 0, .slice L.oa f.atoms.length L.ca, .slice L.oc f.cls.length L.cc]
  | 1, v, _ => v = .pointer (some ⟨b3, 2, none⟩)
  | 2, v, _ => v = .slice L.oa f.atoms.length L.ca
  | 3, v, w => ∃ oA cA, v = .slice oA f.atoms.length cA ∧ OwnG TAt 6 atC w wA.heap.size (.slice oA f.atoms.length cA) f.atoms
  | 4, v, w => ∃ gm, v = .map (some gm)
  | 5, v, _ => v = .int .i64 fuel
  | 6, v, w => ∃ oA cA gm, v = .agg #[.slice L.ot f.terms.length L.ct, .slice none 0 0, .slice L.oa f.atoms.length L.ca, .slice L.oc f.cls.length L.cc, .slice oA f.atoms.length cA, .slice none 0 0, .slice none 0 0, .map (some gm), .int .i64 fuel, .int .i64 0] ∧ OwnG TAt 6 atC w wA.heap.size (.slice oA f.atoms.length cA) f.atoms
  | 7, v, w => ∃ b oA cA gm, v = .pointer (some ⟨b, 0, none⟩) ∧ wA.heap.size ≤ b ∧ w.heap[b]? = some (.cells (svC L f fuel ⟨oA, cA, none, 0, none, 0, gm⟩ ⟨[], [], 0⟩) TSv (0, 0)) ∧ OwnG TAt 6 atC w wA.heap.size (.slice oA f.atoms.length cA) f.atoms
  | 8, v, w => ∃ b oA cA gm, v = .pointer (some ⟨b, 0, none⟩) ∧ wA.heap.size ≤ b ∧ w.heap[b]? = some (.cells (svC L f fuel ⟨oA, cA, none, 0, none, 0, gm⟩ ⟨[], [], 0⟩) TSv (0, 0)) ∧ OwnG TAt 6 atC w wA.heap.size (.slice oA f.atoms.length cA) f.atoms
  | _, _, _ => True
theorem pstK7_keep {wA : World} {L : FmL} {f : Sv.Frm} {b3 : Nat} {fuel : Int} {S : Nat → Bool} {w w' : World} {e : Nat} (he : True) (k : Keep NoS w w') : ∀ (d : Nat) (v : Value), pstK7 wA L f b3 fuel S d v w → pstK7 wA L f b3 fuel (mark S e) d v w'
  | 0, v, h => h
  | 1, v, h => h
  | 2, v, h => h
  | 3, v, h => by
    obtain ⟨oA, cA, e1, h1⟩ := h
    exact ⟨oA, cA, e1, OwnG.keep h1 k⟩
  | 4, v, h => h
  | 5, v, h => h
  | 6, v, h => by
    obtain ⟨oA, cA, gm, e1, h1⟩ := h
    exact ⟨oA, cA, gm, e1, OwnG.keep h1 k⟩
  | 7, v, h => by
    obtain ⟨b, oA, cA, gm, e1, h0, h1, h2⟩ := h
    exact ⟨b, oA, cA, gm, e1, h0, (k.block b (lt_of_heap h1) fun _ h => h).trans h1, OwnG.keep h2 k⟩
  | 8, v, h => by
    obtain ⟨b, oA, cA, gm, e1, h0, h1, h2⟩ := h
    exact ⟨b, oA, cA, gm, e1, h0, (k.block b (lt_of_heap h1) fun _ h => h).trans h1, OwnG.keep h2 k⟩
  | n + 9, v, h => trivial
set_option maxRecDepth 100000 in
set_option maxHeartbeats 32000000 in
theorem solve_any (w : World) (L : FmL) (f : Sv.Frm) (ph : OpO) (fuel : Int) (k0 : Nat) (I : Nat → Sv.SvS → Prop) (hF : IsForm w L f) (hok : FmOK f) (hph : ph.OK) (hfu : 0 ≤ fuel ∧ fuel ≤ 2000) (h0 : I k0 ⟨f.cls, [], 0⟩) (hI : ∀ k s, I k s → ∃ j, k = j + 1 ∧ RndI f ph fuel s ∧ ∀ s', roundF f fuel.toNat s (Sv.doC f.atoms.length (ph.d == 1) (fuel.toNat - s.used) s.cls) = .next s' → I j s') :
    Calls Tryz.prog 7 #[L.v f, .agg #[.int .i64 ph.a, .int .i64 ph.b, .int .i64 ph.c, .int .i64 ph.d], .int .i64 fuel] w fun e w' => (∃ (p1 : Option Addr) (p2 p3 : Nat) (q1 : Option Addr) (q2 q3 : Nat) (r1 : Option Addr) (r2 r3 : Nat) (u : Int), e = .returned (.tuple #[.agg #[.int .i64 (runS f (ph.d == 1) fuel.toNat k0 ⟨f.cls, [], 0⟩), .slice p1 p2 p3, .slice q1 q2 q3, .slice none 0 0, .slice r1 r2 r3, .int .i64 u], fa0])) ∧ Keep NoS w w' := by
  have HF := Lib.hid hF
  have HOK := Lib.hid hok
  have HI := Lib.hid hI
  have H0 := Lib.hid h0
  have HFU := Lib.hid hfu
  have CFC := Lib.hid (fun w' (k : Keep NoS w w') => fcheck_any w' L f (hF.keep k) hok)
  have CO := fun w' => Lib.hid (copts_any w' ph.a ph.b ph.c ph.d fuel hph.1 hph.2.1 hph.2.2.1 hph.2.2.2 hfu)
  obtain ⟨V, hV⟩ : ∃ V, V = runS f (ph.d == 1) fuel.toNat k0 ⟨f.cls, [], 0⟩ := ⟨_, rfl⟩
  have HV := Lib.hid hV
  rw [← hV]
  obtain ⟨w2, hw2⟩ : ∃ w2 : World, w2 = (((w.alloc (.cells #[.slice L.ot f.terms.length L.ct, .slice none 0 0, .slice L.oa f.atoms.length L.ca, .slice L.oc f.cls.length L.cc] TFm)).alloc (.cells #[.int .i64 ph.a, .int .i64 ph.b, .int .i64 ph.c, .int .i64 ph.d] TOp)).alloc (.cells #[.int .i64 0, .slice none 0 0, .slice none 0 0, .slice none 0 0, .slice none 0 0, .int .i64 0] TVd)).alloc (.cells #[.int .i64 0, .int .i64 0] TFa) := ⟨_, rfl⟩
  have K2 : Hid (Keep NoS w w2) := Lib.hid (by rw [hw2]; exact ((((Keep.refl _ _).alloc _).alloc _).alloc _).alloc _)
  have B3 : Hid (Blk w2 w.heap.size #[.slice L.ot f.terms.length L.ct, .slice none 0 0, .slice L.oa f.atoms.length L.ca, .slice L.oc f.cls.length L.cc]) := Lib.hid (by rw [hw2]; exact Blk.old (Blk.old (Blk.old (blk_at _ _ rfl) _) _) _)
  have B4 : Hid (w2.heap[w.heap.size + 1]? = some (.cells #[.int .i64 ph.a, .int .i64 ph.b, .int .i64 ph.c, .int .i64 ph.d] TOp (0, 0))) := Lib.hid (by rw [hw2, heap_alloc_old _ _ _ (by simp), heap_alloc_old _ _ _ (by simp)]; exact heap_alloc_at _ _ _ (by simp))
  have B6 : Hid (w2.heap[w.heap.size + 1 + 1]? = some (.cells (vdC 0 (.slice none 0 0) (.slice none 0 0) (.slice none 0 0) 0) TVd (0, 0))) := Lib.hid (by rw [hw2, heap_alloc_old _ _ _ (by simp)]; exact heap_alloc_at _ _ _ (by simp))
  have B7 : Hid (w2.heap[w.heap.size + 1 + 1 + 1]? = some (.cells #[.int .i64 0, .int .i64 0] TFa (0, 0))) := Lib.hid (by rw [hw2]; exact heap_alloc_at _ _ _ (by simp))
  unfold FmL.v at CFC ⊢
  clear hF hok hI h0 hfu hph hV
  go_enter Tryz.func7, Tryz.ntmps7
  go_upto_region 1 with fail
  rw [← hw2]
  clear hw2
  obtain ⟨b3, hb3⟩ : ∃ b3, b3 = w.heap.size := ⟨_, rfl⟩
  rw [← hb3] at B3 B4 B6 B7 ⊢
  have HG := Lib.hid hb3
  clear hb3
  have x0 := B3.out.cell 0
  have x1 := B3.out.cell 1
  have x2 := B3.out.cell 2
  have x3 := B3.out.cell 3
  have xl := B3.out.lt
  simp at x0 x1 x2 x3
  have CFC := Lib.hid (CFC.out w2 K2.out)
  go_wp2_with fail
  refine CFC.out.mono ?_
  rintro e w3 ⟨rfl, hk3⟩
  have K4 : Hid (Keep NoS w2 (w3.alloc (.cells #[.int .i64 0, .int .i64 0] TFa))) := Lib.hid (hk3.alloc _)
  clear hk3 CFC x0 x1 x2 x3 xl
  have o0 := (K4.out.cell (lt_of_heap B4.out)).trans (cell_of_heap (o := 0) B4.out rfl)
  have o1 := (K4.out.cell (lt_of_heap B4.out)).trans (cell_of_heap (o := 1) B4.out rfl)
  have o2 := (K4.out.cell (lt_of_heap B4.out)).trans (cell_of_heap (o := 2) B4.out rfl)
  have o3 := (K4.out.cell (lt_of_heap B4.out)).trans (cell_of_heap (o := 3) B4.out rfl)
  have ol := Nat.lt_of_lt_of_le (lt_of_heap B4.out) K4.out.size
  go_upto_region 4 with fail
  generalize w3.alloc (.cells #[.int .i64 0, .int .i64 0] TFa) = w4 at *
  go_wp2_with fail
  refine (CO _).out.mono ?_
  rintro e w5 ⟨rfl, hk5⟩
  have K6 : Hid (Keep NoS w2 (w5.alloc (.cells #[.int .i64 0, .int .i64 0] TFa))) := Lib.hid ((K4.out.both hk5).alloc _)
  clear hk5 CO o0 o1 o2 o3 ol
  go_upto_region 7 with fail
  obtain ⟨wA, hwA⟩ : ∃ wA : World, wA = w5.alloc (.cells #[.int .i64 0, .int .i64 0] TFa) := ⟨_, rfl⟩
  rw [← hwA] at K6 ⊢
  clear hwA K4
  have HB3 : Hid (wA.cell? ⟨b3, 0, none⟩ = some (.slice L.ot f.terms.length L.ct) ∧ wA.cell? ⟨b3, 1, none⟩ = some (.slice none 0 0) ∧ wA.cell? ⟨b3, 2, none⟩ = some (.slice L.oa f.atoms.length L.ca) ∧ wA.cell? ⟨b3, 3, none⟩ = some (.slice L.oc f.cls.length L.cc) ∧ b3 < wA.heap.size) := Lib.hid (by
    have hb := B3.out.keep K6.out
    exact ⟨hb.cell 0, hb.cell 1, hb.cell 2, hb.cell 3, hb.lt⟩)
  have KA := Lib.hid (K2.out.both K6.out)
  have CA := Lib.hid (fun w' (k : Keep NoS wA w') => cloneA_any w' (.slice L.oa f.atoms.length L.ca) f.atoms ((HF.out.keep (KA.out.both k)).a.srcG) (by have := HOK.out.n; omega))
  refine wp_region_inv (fun w' => Keep NoS wA w') (pstK7 wA L f b3 fuel) (by kernel_rfl) (by kernel_rfl) (by kernel_rfl) (by kernel_rfl) (Keep.refl _ _).drew _ (fun σ => by
    show putAll _ σ [0, 1, 2, 3, 4, 5, 6, 7, 8] _ = _
    simp only [putAll, List.getElem?_toArray, List.getElem?_cons_zero, List.getElem?_cons_succ, Act.put, List.setIfInBounds_toArray, List.set_cons_zero, List.set_cons_succ]
    rfl) ?_ ?_
  · intro S σ w1 hC e he HK
    have he : e < 9 := he
    have hC : Keep NoS wA w1 := hC
    obtain rfl | rfl | rfl | rfl | rfl | rfl | rfl | rfl | rfl : e = 0 ∨ e = 1 ∨ e = 2 ∨ e = 3 ∨ e = 4 ∨ e = 5 ∨ e = 6 ∨ e = 7 ∨ e = 8 := by omega
    · obtain ⟨x0, x1, x2, x3, xl⟩ := HB3.out
      have x0' := (hC.cell xl).trans x0
      have x1' := (hC.cell xl).trans x1
      have x2' := (hC.cell xl).trans x2
      have x3' := (hC.cell xl).trans x3
      have xl' := Nat.lt_of_lt_of_le xl hC.size
      refine wpAt rfl rfl fun K hK => ?_
      go_simp
      exact hK _ _ ⟨hC, fun d hd hs h => pstK7_keep trivial (Keep.refl _ _) d _ h, _, rfl, rfl⟩
    · refine wpAt rfl rfl fun K hK => ?_
      go_simp
      exact hK _ _ ⟨hC, fun d hd hs h => pstK7_keep trivial (Keep.refl _ _) d _ h, _, rfl, rfl⟩
    · have h1 : σ 1 = .pointer (some ⟨b3, 2, none⟩) := HK.post 1 (by kernel_rfl)
      rw [h1]
      obtain ⟨x0, x1, x2, x3, xl⟩ := HB3.out
      have x0' := (hC.cell xl).trans x0
      have x1' := (hC.cell xl).trans x1
      have x2' := (hC.cell xl).trans x2
      have x3' := (hC.cell xl).trans x3
      have xl' := Nat.lt_of_lt_of_le xl hC.size
      refine wpAt rfl rfl fun K hK => ?_
      go_simp
      exact hK _ _ ⟨hC, fun d hd hs h => pstK7_keep trivial (Keep.refl _ _) d _ h, _, rfl, rfl⟩
    · have h2 : σ 2 = .slice L.oa f.atoms.length L.ca := HK.post 2 (by kernel_rfl)
      rw [h2]
      refine wpAt rfl rfl fun K hK => ?_
      go_simp
      refine (CA.out _ hC).mono ?_
      rintro e w2 ⟨v2, rfl, ho2, hk2⟩
      obtain ⟨o2, c2, hv2, _⟩ := OwnG.len ho2
      subst hv2
      exact hK _ _ ⟨hC.both hk2, fun d hd hs h => pstK7_keep trivial (hk2) d _ h, _, rfl, ⟨o2, c2, rfl, World.ownsRow_mono ho2 hC.size⟩⟩
    · have hmk : (Instr.makeMap 78 none).run Tryz.prog w1 = .ok (.map (some w1.heap.size)) (w1.alloc (.map #[] 0)) := rfl
      refine wpAt rfl rfl fun K hK => ?_
      go_simp
      exact hK _ _ ⟨hC.alloc _, fun d hd hs h => pstK7_keep trivial ((Keep.refl _ _).alloc _) d _ h, _, rfl, ⟨_, rfl⟩⟩
    · refine wpAt rfl rfl fun K hK => ?_
      go_simp
      exact hK _ _ ⟨hC, fun d hd hs h => pstK7_keep trivial (Keep.refl _ _) d _ h, _, rfl, rfl⟩
    · have h0 : σ 0 = .agg #[.slice L.ot f.terms.length L.ct, .slice none 0 0, .slice L.oa f.atoms.length L.ca, .slice L.oc f.cls.length L.cc] := HK.post 0 (by kernel_rfl)
      rw [h0]
      obtain ⟨oA, cA, e3, h3⟩ := HK.post 3 (by kernel_rfl)
      rw [e3]
      obtain ⟨gm, e4⟩ := HK.post 4 (by kernel_rfl)
      rw [e4]
      have h5 : σ 5 = .int .i64 fuel := HK.post 5 (by kernel_rfl)
      rw [h5]
      refine wpAt rfl rfl fun K hK => ?_
      go_simp
      exact hK _ _ ⟨hC, fun d hd hs h => pstK7_keep trivial (Keep.refl _ _) d _ h, _, rfl, ⟨oA, cA, gm, rfl, h3⟩⟩
    · obtain ⟨oA, cA, gm, e6, h6⟩ := HK.post 6 (by kernel_rfl)
      rw [e6]
      refine wpAt rfl rfl fun K hK => ?_
      go_simp
      exact hK _ _ ⟨hC.alloc _, fun d hd hs h => pstK7_keep trivial ((Keep.refl _ _).alloc _) d _ h, _, rfl, ⟨w1.heap.size, oA, cA, gm, rfl, hC.size, heap_alloc_at _ _ _ rfl, OwnG.keep h6 ((Keep.refl _ _).alloc _)⟩⟩
    · obtain ⟨b, oA, cA, gm, e7, h71, h72, h73⟩ := HK.post 7 (by kernel_rfl)
      rw [e7]
      refine wpAt rfl rfl fun K hK => ?_
      go_simp
      exact hK _ _ ⟨hC, fun d hd hs h => pstK7_keep trivial (Keep.refl _ _) d _ h, _, rfl, ⟨b, oA, cA, gm, rfl, h71, h72, h73⟩⟩
  · intro S σ w9 hC hS hP
    have hC : Keep NoS wA w9 := hC
    obtain ⟨b, oA, cA, gm, e8, g8, h8, o8⟩ : ∃ b oA cA gm, σ 8 = .pointer (some ⟨b, 0, none⟩) ∧ wA.heap.size ≤ b ∧ w9.heap[b]? = some (.cells (svC L f fuel ⟨oA, cA, none, 0, none, 0, gm⟩ ⟨[], [], 0⟩) TSv (0, 0)) ∧ OwnG TAt 6 atC w9 wA.heap.size (.slice oA f.atoms.length cA) f.atoms := hP 8 (by show 8 < 9; omega)
    have HS9 : Hid (SvL w w9 b L f fuel ⟨oA, cA, none, 0, none, 0, gm⟩ ⟨[], [], 0⟩) := Lib.hid ⟨KA.out.both hC, Nat.le_trans KA.out.size g8, h8, World.ownsRow_mono o8 KA.out.size, ClsT.nil _ _, StepsT.nil _ _⟩
    have KC := Lib.hid (K6.out.both hC)
    rw [e8]
    refine NoPanic.normal ?_
    clear hC hS hP e8 g8 h8 o8 CA HB3
    have HB9 := Lib.hid (B3.out.keep KC.out)
    have x3 : w9.cell? ⟨b3, 3, none⟩ = some (.slice L.oc f.cls.length L.cc) := HB9.out.cell 3
    have xl := HB9.out.lt
    have HCL := Lib.hid ((HF.out.keep HS9.out.k).c)
    have hnc : f.cls.length ≤ 400 := HOK.out.c.n
    have HCV := Lib.hid HOK.out.c.c
    have hn20 := HOK.out.n
    obtain ⟨nc, hnc'⟩ : ∃ nc, f.cls.length = nc := ⟨_, rfl⟩
    have HNC := Lib.hid hnc'
    rw [hnc'] at x3 hnc HCL
    clear hnc'
    go_wp2
    clear x3 xl
    have CI := Lib.hid (fun w' v x (hx : IsInts w' v x) (hl : x.length ≤ 1000) => cloneI_any w' v x hx.srcG (by omega))
    go_loopw [40] (fun s wr => ∃ (k : Nat) (M : SvM), k ≤ nc ∧ s = .int .i64 k ∧ SvL w wr b L f fuel M ⟨f.cls.take k, [], 0⟩ ∧ FrN w9 wr) (fun s _ => (nc - intOf s).toNat)
    case atStart => exact ⟨0, _, by omega, rfl, by rw [List.take_zero]; exact HS9.out, FrN.refl _⟩
    case round =>
    obtain ⟨k, M, hk, rfl, hsr, hfr⟩ := hrel
    have HSR := Lib.hid hsr
    have FR := Lib.hid hfr
    clear hsr hfr
    by_cases hkl : k < nc
    case pos =>
      have hlt : (k : Int) < (nc : Int) := by omega
      have hkc : k < f.cls.length := by rw [HNC.out]; exact hkl
      have hform := (HF.out.keep HSR.out.k).c
      rw [HNC.out] at hform
      obtain ⟨bc, fc, ol, cl, hoc, hbc, p0, hin, hcl1, hcl2⟩ := hform.at hkc
      rw [hoc]
      have hcv := HCV.out _ (List.getElem_mem hkc)
      have HIN := Lib.hid hin
      have HTK : Hid (f.cls.take (k + 1) = f.cls.take k ++ [f.cls[k]]) := Lib.hid (List.take_succ_eq_append_getElem hkc)
      have HI64 := Lib.hid hin.all
      have hcl := hcv.1.le
      have htl : (f.cls.take k).length = k := by rw [List.length_take]; omega
      generalize f.cls[k] = c at *
      clear hin hform hcv
      go_upto_region 11 with fail
      clear p0 hbc
      obtain ⟨y0, y1, y2, y3, y4, y5, y6, y7, y8, y9, yl⟩ := svC_cells HSR.out.bk
      simp only at y5
      rw [htl] at y5
      clear y0 y1 y2 y3 y4 y6 y7 y8 y9
      refine wp_region_by (fun w' => Keep NoS wr w') [0, 8, 9, 10, 11] [([0, 1, 2, 3, 4, 5], 6), ([], 7), ([], 8), ([9, 10], 11)] [] (by kernel_rfl) (by kernel_rfl) (Keep.refl _ _).drew ?_
      intro X W hne hF hcl'
      have HCLS := Lib.hid hcl'
      have u5 := fun x => ((hF x).cell yl).trans y5
      have ul := fun x => Nat.lt_of_lt_of_le yl (hF x).size
      clear hF hcl'
      simp only [wpPlan, pickOps, List.getElem?_toArray, List.getElem?_cons_zero, List.getElem?_cons_succ, clsOf, Bool.false_eq_true, if_false]
      (repeat (quiet_step (fail))); refine wpQuiet_nil ?_
      refine wpAt rfl rfl fun K hK => ?_
      go_simp
      refine (CI.out _ _ c (HIN.out.keep ((Keep.refl NoS wr).drew)) (by omega)).mono ?_
      rintro e w5 ⟨v5, rfl, ho5, hk5⟩
      have k5 : Keep NoS wr w5 := Keep.both (Keep.refl _ _).drew hk5
      have hi5 := (own_in ho5).intsT HI64.out
      obtain ⟨o5, c5, hv5, _⟩ := hi5.form
      subst hv5
      refine hK _ _ ⟨fun _ => HCLS.out _ k5, ?_⟩
      clear hK hk5 ho5
      have HI5 := Lib.hid hi5
      clear hi5
      (repeat (quiet_step (fail))); refine wpQuiet_nil ?_
      refine wpAt rfl rfl fun K hK => ?_
      go_simp
      have k6 : Keep NoS w5 (w5.alloc (.cells #[.slice o5 c.length c5] TLi)) := (Keep.refl _ _).alloc _
      refine hK _ _ ⟨fun _ => HCLS.out _ (k5.both k6), ?_⟩
      obtain ⟨oC, cC, w7, hr7, hs7, hf7, g5, f5, gl⟩ := ((HSR.out.keep k5).keep k6).cls1 (bx := w5.heap.size) (x := .slice o5 c.length c5) (c := c) (blk_at _ _ rfl) (HI5.out.keep k6) (by rw [htl]; omega)
      simp only at hr7 g5 hs7
      rw [htl] at hr7 g5 hs7
      rw [← HTK.out] at hs7
      have HS7 := Lib.hid hs7
      have F7 := Lib.hid ((FR.out.trans (FrN.of (k5.both k6))).trans (by rw [htl] at hf7; exact hf7))
      clear hK k5 k6 HCLS hs7 hf7 u5 ul y5 yl htl
      (repeat (quiet_step (fail))); refine wpQuiet_nil ?_
      refine wpAt rfl rfl fun K hK => ?_
      refine wp_app_run _ _ 26 _ _ rfl rfl rfl hr7 ?_
      refine hK _ _ ⟨fun h => (by simp at h), ?_⟩
      clear hK hr7
      (repeat (quiet_step (fail))); refine wpQuiet_nil ?_
      refine wpAt rfl rfl fun K hK => ?_
      go_simp
      refine hK _ _ ⟨fun h => (by simp at h), ?_⟩
      clear hK
      (repeat (quiet_step (fail))); refine wpQuiet_nil ?_
      refine NoPanic.normal ?_
      go_wp2
      go_roundw
      case rel => exact ⟨k + 1, _, by omega, by go_num, HS7.out, F7.out⟩
      case measure => simp [intOf]; omega
    case neg =>
      have hlt : ¬ (k : Int) < (nc : Int) := by omega
      obtain rfl : nc = k := by omega
      have HSE : Hid (SvL w wr b L f fuel M ⟨f.cls, [], 0⟩) := Lib.hid (by have := HSR.out; rwa [List.take_of_length_le (by rw [HNC.out]; exact Nat.le_refl _)] at this)
      obtain ⟨wB, hwB⟩ : ∃ W : World, W = wr := ⟨_, rfl⟩
      subst hwB
      clear HSR CI hk hkl
      go_wp2
      go_loopg [] k0 (fun gk wr => ∃ M s, SvL w wr b L f fuel M s ∧ I gk s ∧ runS f (ph.d == 1) fuel.toNat gk s = V ∧ FrN w9 wr)
      case atStart => exact ⟨M, _, HSE.out, H0.out, HV.out.symm, FR.out⟩
      case round =>
      obtain ⟨M2, s2, hs2, hi2, hrs2, hfr2⟩ := hrel
      obtain ⟨j, rfl, hri, hnx⟩ := HI.out gk s2 hi2
      have HNX := Lib.hid hnx
      have HRS := Lib.hid hrs2
      have FR2 := Lib.hid hfr2
      have CR := Lib.hid (round_any w wr b L f fuel M2 s2 ph hs2 HF.out HOK.out HFU.out.2 hri)
      have hb4 := hfr2.at' (b3 + 1) _ TOp ((KC.out.block (b3 + 1) (lt_of_heap B4.out) fun _ h => h).trans B4.out) (by decide) (by decide) (by decide)
      have o0 := cell_of_heap (o := 0) hb4 rfl
      have o1 := cell_of_heap (o := 1) hb4 rfl
      have o2 := cell_of_heap (o := 2) hb4 rfl
      have o3 := cell_of_heap (o := 3) hb4 rfl
      have ol := lt_of_heap hb4
      clear hs2 hi2 hnx hrs2 hfr2 hb4 hri
      go_wp2_with fail
      refine CR.out.mono ?_
      rintro e w11 ⟨hk11, hfn11, hrd⟩
      have K11 := Lib.hid hk11
      have FR11 := Lib.hid (FR2.out.trans hfn11)
      clear hk11 hfn11 CR o0 o1 o2 o3 ol
      rcases hr : roundF f fuel.toNat s2 (Sv.doC f.atoms.length (ph.d == 1) (fuel.toNat - s2.used) s2.cls) with st | s'
      · rw [hr] at hrd
        obtain ⟨oh, nh, ch, lb, p3, n3, c3, os, cs, l, u, rfl, hsrc, hlb, hst, hll, hlit⟩ := hrd
        have hst0 := round_done hr
        obtain rfl : V = st := HRS.out.symm.trans (by unfold runS; rw [hr])
        have e1 : (V != 0) = true := by rw [bne_iff_ne]; exact hst0
        clear hr hst0
        have ka : Keep NoS w11 (w11.alloc (.cells #[.int .i64 V, .slice oh nh ch, .slice p3 n3 c3, .slice none 0 0, .slice os l.length cs, .int .i64 u] TVd)) := (Keep.refl _ _).alloc _
        have hbl : Blk (w11.alloc (.cells #[.int .i64 V, .slice oh nh ch, .slice p3 n3 c3, .slice none 0 0, .slice os l.length cs, .int .i64 u] TVd)) w11.heap.size (vdC V (.slice oh nh ch) (.slice p3 n3 c3) (.slice os l.length cs) u) := blk_at _ _ rfl
        have CCP := Lib.hid (copied_any _ V oh nh ch lb (src_keep (K := 1) hsrc ka) hlb p3 n3 c3 os cs l (hst.keep ka) hll hlit u)
        have FR12 := Lib.hid (FR11.out.trans (FrN.of ka))
        have K12 := Lib.hid (K11.out.both ka)
        obtain ⟨x0, x1, x2, x3, x4, x5, f0, f1, f2, f3, f4, f5, xl⟩ := vdC_cells hbl
        clear ka hbl hsrc hlb hst hll hlit
        generalize l.length = nl at *
        go_upto_region 14 with fail
        generalize w11.alloc (.cells #[.int .i64 V, .slice oh nh ch, .slice p3 n3 c3, .slice none 0 0, .slice os nl cs, .int .i64 u] TVd) = w12 at *
        generalize w11.heap.size = b13 at *
        go_wp2_with fail
        refine CCP.out.mono ?_
        rintro e w13 ⟨⟨a1, a2, a3, a4, a5, a6, a7, a8, a9, rfl⟩, hk13⟩
        have FR13 := FR12.out.trans (FrN.of hk13)
        have hb6 := FR13.at' (b3 + 1 + 1) _ TVd ((KC.out.block (b3 + 1 + 1) (lt_of_heap B6.out) fun _ h => h).trans B6.out) (by decide) (by decide) (by decide)
        have hb7 := FR13.at' (b3 + 1 + 1 + 1) _ TFa ((KC.out.block (b3 + 1 + 1 + 1) (lt_of_heap B7.out) fun _ h => h).trans B7.out) (by decide) (by decide) (by decide)
        have K13 := Lib.hid (K12.out.both hk13)
        clear hk13 FR13 CCP x0 x1 x2 x3 x4 x5 f0 f1 f2 f3 f4 f5 xl
        obtain ⟨x0, x1, x2, x3, x4, x5, f0, f1, f2, f3, f4, f5, xl⟩ := vdC_cells (⟨_, hb6⟩ : Blk _ _ _)
        obtain ⟨y0, y1, g0, g1, yl⟩ := Blk.two (⟨_, hb7⟩ : Blk _ _ _)
        clear hb6 hb7
        go_wp2
        refine bodyPost_ret (by simp [results, Tryz.results7, go_sem, x0, x1, x2, x3, x4, x5, y0, y1, xl, yl]; rfl) rfl ?_
        have hg := HG.out
        exact ⟨⟨a1, a2, a3, a4, a5, a6, a7, a8, a9, u, rfl⟩, keep2 (keep6 K13.out (by omega) _ _ _ _ _ _) (by omega) _ _⟩
      · rw [hr] at hrd
        obtain ⟨rfl, M3, hs3⟩ := hrd
        have HI3 := Lib.hid (HNX.out s' hr)
        have HRS3 : Hid (runS f (ph.d == 1) fuel.toNat j s' = V) := Lib.hid (by have := HRS.out; unfold runS at this; rw [hr] at this; exact this)
        have ka : Keep NoS w11 (w11.alloc (.cells #[.int .i64 0, .slice none 0 0, .slice none 0 0, .slice none 0 0, .slice none 0 0, .int .i64 0] TVd)) := (Keep.refl _ _).alloc _
        have HS3 := Lib.hid (hs3.keep ka)
        have FR12 := Lib.hid (FR11.out.trans (FrN.of ka))
        clear hr ka hs3
        go_wp2
        go_roundg j
        case measure => omega
        case rel => exact ⟨M3, s', HS3.out, HI3.out, HRS3.out, FR12.out⟩
end Go.Proofs.YtnndmdfjdodiiaaGreat
