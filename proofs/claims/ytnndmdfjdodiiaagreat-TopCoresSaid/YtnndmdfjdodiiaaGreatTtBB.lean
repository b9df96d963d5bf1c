/- Package unit: Has, state, New. Package unit: Add. Package unit: Run. Package unit: Run. -/
import Derived.Test.YtnndmdfjdodiiaaGreatTtA
namespace Go.Proofs.YtnndmdfjdodiiaaGreat
open Go.ChangeShapes Go.WideShapes Go.RowKit Go.Maps
set_option linter.unusedVariables false
set_option linter.unusedSimpArgs false

set_option maxRecDepth 100000 in
theorem has_any (w0 w : World) (b gm : Nat) (vc vl vw : Value) (t : Cd.Tr) (h : LTr w0 w b gm vc vl vw t) (x : Int) (hx : I64 x) :
    Calls Tryz.prog 115 #[.pointer (some ⟨b, 0, none⟩), .int .i64 x] w fun e w' => e = .returned (.bool (decide (x ∈ t.lits))) ∧ w' = w := by
  have hl := h.m.look hx
  have c3 := cell_of_heap (o := 3) h.tb rfl
  have hb := lt_of_heap h.tb
  generalize decide (x ∈ t.lits) = r at *
  clear h
  go_enter Tryz.func115, Tryz.ntmps115
  go_wp2
  go_ret
  exact ⟨rfl, rfl⟩
theorem stG_in {T c : List Int} {k : Nat} {o : Int} (hk : k < c.length) : Cd.stG T (c.drop k) o = if -c[k] ∈ T then Cd.stG T (c.drop (k + 1)) o else if c[k] ∈ T ∨ o ≠ 0 then (false, 0) else Cd.stG T (c.drop (k + 1)) c[k] := by
  rw [List.drop_eq_getElem_cons hk]; rfl
set_option maxRecDepth 100000 in
theorem state_any (w0 w : World) (b gm : Nat) (vc vl vw : Value) (t : Cd.Tr) (h : LTr w0 w b gm vc vl vw t) (v : Value) (c : List Int) (hc : IsInts w v c) (hn : ∀ x ∈ c, I64 (-x)) :
    Calls Tryz.prog 143 #[.pointer (some ⟨b, 0, none⟩), v] w fun e w' => e = .returned (.tuple #[.bool (Cd.stF t.lits c).1, .int .i64 (Cd.stF t.lits c).2]) ∧ w' = w := by
  have HC := Lib.hid hc
  have HN := Lib.hid hn
  have HM := Lib.hid h.m
  obtain ⟨oa, ca, rfl, hml⟩ := hc.len
  unfold maxLen at hml
  have c3 := cell_of_heap (o := 3) h.tb rfl
  have hb := lt_of_heap h.tb
  unfold Cd.stF
  generalize t.lits = T at *
  clear h hc hn
  go_enter Tryz.func143, Tryz.ntmps143
  go_wp2
  go_loopw [11, 6] (fun s o wr => ∃ (k : Nat) (z : Int), k ≤ c.length ∧ s = .int .i64 k ∧ o = .int .i64 z ∧ wr = w ∧ Cd.stG T c 0 = Cd.stG T (c.drop k) z) (fun s _ _ => (c.length - intOf s).toNat)
  case atStart => exact ⟨0, 0, by omega, rfl, rfl, rfl, rfl⟩
  case round =>
  obtain ⟨k, z, hk, rfl, rfl, hwr, hst⟩ := hrel
  have hwr : w = wr := hwr.symm
  subst hwr
  have HST := Lib.hid hst
  clear hst
  by_cases hkl : k < c.length
  case neg =>
    have hlt : ¬ (k : Int) < (c.length : Int) := by omega
    have hE : Hid (Cd.stG T c 0 = (decide (z = 0), z)) := Lib.hid (HST.out.trans (by rw [List.drop_eq_nil_of_le (by omega)]; rfl))
    clear HST
    by_cases hz : z = 0
    · subst hz
      go_wp2
      refine bodyPost_ret (by simp [results, Tryz.results143, go_sem]; rfl) rfl ?_
      rw [hE.out]
      exact ⟨rfl, rfl⟩
    · have e1 : (z == 0) = false := by rw [beq_eq_false_iff_ne]; exact hz
      have hE2 : Hid (Cd.stG T c 0 = (false, z)) := Lib.hid (hE.out.trans (by rw [decide_eq_false hz]))
      clear hE hz
      go_wp2
      refine bodyPost_ret (by simp [results, Tryz.results143, go_sem]; rfl) rfl ?_
      rw [hE2.out]
      exact ⟨rfl, rfl⟩
  case pos =>
  have hlt : (k : Int) < (c.length : Int) := by omega
  obtain ⟨bc, fc, cap, hv, hbc, p0⟩ := HC.out.at hkl
  injection hv with q1 q2 q3
  clear q2
  subst q1
  subst q3
  have hx1 := HC.out.all _ (List.getElem_mem hkl)
  have hx2 := HN.out _ (List.getElem_mem hkl)
  have HX := Lib.hid (HST.out.trans (stG_in hkl))
  have l1 := HM.out.look hx2
  have l2 := HM.out.look hx1
  generalize c[k] = x at *
  clear HST
  by_cases hA : -x ∈ T
  case pos =>
    rw [decide_eq_true hA] at l1
    have HY : Hid (Cd.stG T c 0 = Cd.stG T (c.drop (k + 1)) z) := Lib.hid (HX.out.trans (by rw [if_pos hA]))
    unfold I64 at hx1 hx2
    clear HX l2 hA
    go_wp2
    go_roundw
    case rel => exact ⟨k + 1, z, by omega, by go_num, rfl, by trivial, HY.out⟩
    case measure => simp [intOf]; omega
  case neg =>
  rw [decide_eq_false hA] at l1
  by_cases hB : x ∈ T
  case pos =>
    rw [decide_eq_true hB] at l2
    have HY : Hid (Cd.stG T c 0 = (false, 0)) := Lib.hid (HX.out.trans (by rw [if_neg hA, if_pos (.inl hB)]))
    unfold I64 at hx1 hx2
    clear HX hA hB
    go_wp2
    refine bodyPost_ret (by simp [results, Tryz.results143, go_sem]; rfl) rfl ?_
    rw [HY.out]
    exact ⟨rfl, rfl⟩
  case neg =>
  rw [decide_eq_false hB] at l2
  by_cases hZ : z = 0
  case pos =>
    subst hZ
    have HY : Hid (Cd.stG T c 0 = Cd.stG T (c.drop (k + 1)) x) := Lib.hid (HX.out.trans (by rw [if_neg hA, if_neg (by simp [hB])]))
    unfold I64 at hx1 hx2
    clear HX hA hB
    go_wp2
    go_roundw
    case rel => exact ⟨k + 1, x, by omega, by go_num, rfl, by trivial, HY.out⟩
    case measure => simp [intOf]; omega
  case neg =>
    have e1 : (z != 0) = true := by rw [bne_iff_ne]; exact hZ
    have HY : Hid (Cd.stG T c 0 = (false, 0)) := Lib.hid (HX.out.trans (by rw [if_neg hA, if_pos (.inr hZ)]))
    unfold I64 at hx1 hx2
    clear HX hA hB hZ
    go_wp2
    refine bodyPost_ret (by simp [results, Tryz.results143, go_sem]; rfl) rfl ?_
    rw [HY.out]
    exact ⟨rfl, rfl⟩
set_option maxRecDepth 100000 in
theorem new_any (w : World) (oc : Option Addr) (nc cc : Nat) :
    Calls Tryz.prog 69 #[.slice oc nc cc] w fun e w' => ∃ b gm, e = .returned (.pointer (some ⟨b, 0, none⟩)) ∧ LTr w w' b gm (.slice oc nc cc) (.slice none 0 0) (.slice none 0 0) ⟨[], []⟩ := by
  have hmk : (Instr.makeMap 78 none).run Tryz.prog w = .ok (.map (some w.heap.size)) (w.alloc (.map #[] 0)) := rfl
  go_enter Tryz.func69, Tryz.ntmps69
  go_wp2
  refine bodyPost_ret (by simp [results, Tryz.results69, go_sem]; rfl) rfl ?_
  refine ⟨w.heap.size + 1, w.heap.size, rfl, ?_⟩
  have ka : Keep NoS w (w.alloc (.map #[] 0)) := (Keep.refl _ _).alloc _
  have kb : Keep NoS (w.alloc (.map #[] 0)) ((w.alloc (.map #[] 0)).alloc (.cells #[.slice oc nc cc, .slice none 0 0, .slice none 0 0, .map (some w.heap.size)] TTr)) := (Keep.refl _ _).alloc _
  exact ⟨ka.both kb, by omega, Nat.le_refl _, heap_alloc_at _ _ _ (by simp), OwnI.nil _ _, OwnI.nil _ _, (VBlk.made w).same (kb.block _ (by simp) fun _ h => h), fun k hk => by cases hk⟩
end Go.Proofs.YtnndmdfjdodiiaaGreat

namespace Go.Proofs.YtnndmdfjdodiiaaGreat
open Go.ChangeShapes Go.WideShapes Go.RowKit Go.Maps
set_option linter.unusedVariables false
set_option linter.unusedSimpArgs false

theorem app_oneI {w : World} {base : Nat} {v : Value} {xs : List Int} (h : OwnI w base v xs) {b : Nat} {x : Int} (hb : Blk w b #[.int .i64 x]) (hl : xs.length ≤ 100000) (hbase : base ≤ w.heap.size) :
    ∃ v' w', (Builtin.append_ #[22, 22] 22 #[v, .slice (some ⟨b, 0, none⟩) 1 1]).run Tryz.prog w = .ok v' w' ∧ OwnI w' base v' (xs ++ [x]) ∧ w.grownBy w' v.ownBlock ∧ (v'.ownBlock = v.ownBlock ∨ v'.ownBlock = some w.heap.size) := by
  obtain ⟨i0, hi0, hz0, hz1, hz2⟩ := info_parts infoI
  obtain ⟨v', w', hr, ho, hg, _, hv⟩ := run_append_own_at (P := Tryz.prog) w base 22 22 TI i0 (.int .i64 0) 1 8 Tryz.underlying22 hi0 hz0 hz1 hz2 rfl (by decide) v xs.length (iv xs) h ⟨b, 0, none⟩ 1 1 [.int .i64 x] rfl
    (fun j u hj => by rw [add_plain, Nat.zero_add, hb.cell j]; simpa using hj) (by intro u hu; rw [List.mem_singleton.1 hu]; rfl) (by unfold maxLen; omega) (by omega) hbase
  exact ⟨v', w', hr, by unfold OwnI; rw [iv_app, List.length_append]; exact ho, hg, hv⟩
/-- What stands while a literal is added. -/
structure AddC (w0 w6 : World) (b gm : Nat) (vc vl vw : Value) (T W : List Int) (x y : Int) (bA aA bB aB s1 s2 : Bool) (sbA saA sbB saB : Value) (w : World) : Prop where
  k : Keep NoS w0 w
  hb : w0.heap.size ≤ b
  f : ∀ c, c < w6.heap.size → c ≠ b → vl.ownBlock ≠ some c → vw.ownBlock ≠ some c → w.heap[c]? = w6.heap[c]?
  kk : Fr (TrS b gm vl vw) w6 w
  a : OwnI w w0.heap.size (cond aA saA vl) (cond aA (T ++ [x]) T)
  c : OwnI w w0.heap.size (cond aB saB vw) (cond aB (W ++ [y]) W)
  na : aA = true → saA.ownBlock = vl.ownBlock ∨ ∃ k, saA.ownBlock = some k ∧ w6.heap.size ≤ k
  nb : aB = true → saB.ownBlock = vw.ownBlock ∨ ∃ k, saB.ownBlock = some k ∧ w6.heap.size ≤ k
  ap : ∀ k, (cond aA saA vl).ownBlock = some k → (cond aB saB vw).ownBlock ≠ some k
  pa : bA = true → aA = false → ∃ i, sbA = .slice (some ⟨i, 0, none⟩) 1 1 ∧ Blk w i #[.int .i64 x] ∧ (cond aB saB vw).ownBlock ≠ some i
  pb : bB = true → aB = false → ∃ i, sbB = .slice (some ⟨i, 0, none⟩) 1 1 ∧ Blk w i #[.int .i64 y] ∧ (cond aA saA vl).ownBlock ≠ some i
  blk : w.heap[b]? = some (.cells #[vc, cond s1 saA vl, cond s2 saB vw, .map (some gm)] TTr (0, 0))
section
variable {w0 w6 w w' : World} {b gm : Nat} {vc vl vw : Value} {T W : List Int} {x y : Int} {bA aA bB aB s1 s2 : Bool} {sbA saA sbB saB : Value}
theorem AddC.keep (h : AddC w0 w6 b gm vc vl vw T W x y bA aA bB aB s1 s2 sbA saA sbB saB w) (k : Keep NoS w w') : AddC w0 w6 b gm vc vl vw T W x y bA aA bB aB s1 s2 sbA saA sbB saB w' :=
  ⟨h.k.both k, h.hb, fun c h1 h2 h3 h4 => (k.block c (Nat.lt_of_lt_of_le h1 h.kk.size) fun _ h => h).trans (h.f c h1 h2 h3 h4), h.kk.then k, h.a.keep k, h.c.keep k, h.na, h.nb, h.ap,
   fun e1 e2 => by obtain ⟨i, h1, h2, h3⟩ := h.pa e1 e2; exact ⟨i, h1, h2.keep k, h3⟩, fun e1 e2 => by obtain ⟨i, h1, h2, h3⟩ := h.pb e1 e2; exact ⟨i, h1, h2.keep k, h3⟩, by rw [k.block b (lt_of_heap h.blk) fun _ h => h]; exact h.blk⟩
theorem AddC.buildA (h : AddC w0 w6 b gm vc vl vw T W x y bA aA bB aB s1 s2 sbA saA sbB saB w) (k : Keep NoS w w') {i : Nat} (hi : Blk w' i #[.int .i64 x]) (hn : w.heap.size ≤ i) : AddC w0 w6 b gm vc vl vw T W x y true aA bB aB s1 s2 (.slice (some ⟨i, 0, none⟩) 1 1) saA sbB saB w' := by
  have h' := h.keep k
  exact ⟨h'.k, h'.hb, h'.f, h'.kk, h'.a, h'.c, h'.na, h'.nb, h'.ap, fun _ _ => ⟨i, rfl, hi, fun e => by have := h.c.ltT _ e; omega⟩, h'.pb, h'.blk⟩
theorem AddC.buildB (h : AddC w0 w6 b gm vc vl vw T W x y bA aA bB aB s1 s2 sbA saA sbB saB w) (k : Keep NoS w w') {i : Nat} (hi : Blk w' i #[.int .i64 y]) (hn : w.heap.size ≤ i) : AddC w0 w6 b gm vc vl vw T W x y bA aA true aB s1 s2 sbA saA (.slice (some ⟨i, 0, none⟩) 1 1) saB w' := by
  have h' := h.keep k
  exact ⟨h'.k, h'.hb, h'.f, h'.kk, h'.a, h'.c, h'.na, h'.nb, h'.ap, h'.pa, fun _ _ => ⟨i, rfl, hi, fun e => by have := h.a.ltT _ e; omega⟩, h'.blk⟩

theorem AddC.appA (hl : T.length ≤ 100000) (h : AddC w0 w6 b gm vc vl vw T W x y bA aA bB aB s1 s2 sbA saA sbB saB w) (hb : bA = true) (ha : aA = false) (hs : s1 = false) :
    ∃ v' w', (Builtin.append_ #[22, 22] 22 #[vl, sbA]).run Tryz.prog w = .ok v' w' ∧ AddC w0 w6 b gm vc vl vw T W x y bA true bB aB s1 s2 sbA v' sbB saB w' := by
  subst hb ha hs
  obtain ⟨i, rfl, hi, hne⟩ := h.pa rfl rfl
  have hown : OwnI w w0.heap.size vl T := h.a
  obtain ⟨v', w', hr, ho, hg, hv⟩ := app_oneI hown hi hl h.k.size
  have hbb : vl.ownBlock ≠ some b := hown.neT h.blk (by decide)
  have hn6 : v'.ownBlock = vl.ownBlock ∨ ∃ k, v'.ownBlock = some k ∧ w6.heap.size ≤ k := hv.imp_right fun e => ⟨_, e, h.kk.size⟩
  have hapn : ∀ k, v'.ownBlock = some k → (cond aB saB vw).ownBlock ≠ some k := fun k hk hk' => by
    rcases hv with e | e
    · exact h.ap k (e ▸ hk) hk'
    · rw [e] at hk
      cases hk
      have := h.c.ltT _ hk'
      omega
  have hoth : ∀ k, (cond aB saB vw).ownBlock = some k → w'.heap[k]? = w.heap[k]? := fun k hk => hg.block k (h.c.ltT _ hk) fun e => h.ap k e.symm hk
  refine ⟨v', w', hr, h.k.grown hg fun k hk => hown.block k hk, h.hb, fun c h1 h2 h3 h4 => (hg.block c (Nat.lt_of_lt_of_le h1 h.kk.size) fun e => h3 e.symm).trans (h.f c h1 h2 h3 h4), h.kk.grown hg fun k hk _ => .inr (.inr (.inl hk)), ho, h.c.same hoth, fun _ => hn6, h.nb, hapn, fun _ e => (by cases e), fun e1 e2 => ?_, ?_⟩
  · obtain ⟨j, q1, ⟨t, q2⟩, q3⟩ := h.pb e1 e2
    refine ⟨j, q1, ⟨t, by rw [hg.block j (lt_of_heap q2) fun e => q3 e.symm]; exact q2⟩, fun e => ?_⟩
    rcases hv with e' | e'
    · exact q3 (show vl.ownBlock = some j from e' ▸ e)
    · replace e : v'.ownBlock = some j := e
      rw [e'] at e
      cases e
      exact absurd (lt_of_heap q2) (Nat.lt_irrefl _)
  · rw [hg.block b (lt_of_heap h.blk) fun e => hbb e.symm]
    exact h.blk
theorem AddC.appB (hl : W.length ≤ 100000) (h : AddC w0 w6 b gm vc vl vw T W x y bA aA bB aB s1 s2 sbA saA sbB saB w) (hb : bB = true) (ha : aB = false) (hs : s2 = false) :
    ∃ v' w', (Builtin.append_ #[22, 22] 22 #[vw, sbB]).run Tryz.prog w = .ok v' w' ∧ AddC w0 w6 b gm vc vl vw T W x y bA aA bB true s1 s2 sbA saA sbB v' w' := by
  subst hb ha hs
  obtain ⟨i, rfl, hi, hne⟩ := h.pb rfl rfl
  have hown : OwnI w w0.heap.size vw W := h.c
  obtain ⟨v', w', hr, ho, hg, hv⟩ := app_oneI hown hi hl h.k.size
  have hbb : vw.ownBlock ≠ some b := hown.neT h.blk (by decide)
  have hn6 : v'.ownBlock = vw.ownBlock ∨ ∃ k, v'.ownBlock = some k ∧ w6.heap.size ≤ k := hv.imp_right fun e => ⟨_, e, h.kk.size⟩
  have hapn : ∀ k, v'.ownBlock = some k → (cond aA saA vl).ownBlock ≠ some k := fun k hk hk' => by
    rcases hv with e | e
    · exact h.ap k hk' (e ▸ hk)
    · rw [e] at hk
      cases hk
      have := h.a.ltT _ hk'
      omega
  have hoth : ∀ k, (cond aA saA vl).ownBlock = some k → w'.heap[k]? = w.heap[k]? := fun k hk => hg.block k (h.a.ltT _ hk) fun e => h.ap k hk e.symm
  refine ⟨v', w', hr, h.k.grown hg fun k hk => hown.block k hk, h.hb, fun c h1 h2 h3 h4 => (hg.block c (Nat.lt_of_lt_of_le h1 h.kk.size) fun e => h4 e.symm).trans (h.f c h1 h2 h3 h4), h.kk.grown hg fun k hk _ => .inr (.inr (.inr hk)), h.a.same hoth, ho, h.na, fun _ => hn6, fun k hk hk' => hapn k hk' hk, fun e1 e2 => ?_, fun _ e => (by cases e), ?_⟩
  · obtain ⟨j, q1, ⟨t, q2⟩, q3⟩ := h.pa e1 e2
    refine ⟨j, q1, ⟨t, by rw [hg.block j (lt_of_heap q2) fun e => q3 e.symm]; exact q2⟩, fun e => ?_⟩
    rcases hv with e' | e'
    · exact q3 (show vw.ownBlock = some j from e' ▸ e)
    · replace e : v'.ownBlock = some j := e
      rw [e'] at e
      cases e
      exact absurd (lt_of_heap q2) (Nat.lt_irrefl _)
  · rw [hg.block b (lt_of_heap h.blk) fun e => hbb e.symm]
    exact h.blk
theorem AddC.set (h : AddC w0 w6 b gm vc vl vw T W x y bA aA bB aB s1 s2 sbA saA sbB saB w) {i : Nat} {v : Value} {t1 t2 : Bool} (he : #[vc, cond s1 saA vl, cond s2 saB vw, .map (some gm)].setIfInBounds i v = #[vc, cond t1 saA vl, cond t2 saB vw, .map (some gm)]) (ha : aA = true) (hb : aB = true) : AddC w0 w6 b gm vc vl vw T W x y bA aA bB aB t1 t2 sbA saA sbB saB (w.setCell ⟨b, i, none⟩ v) := by
  have k1 : ∀ c, c ≠ b → (w.setCell ⟨b, i, none⟩ v).heap[c]? = w.heap[c]? := fun c h => heap_setCell_other w ⟨b, i, none⟩ v c h
  subst ha hb
  refine ⟨keep_at h.k _ h.hb, h.hb, fun c h1 h2 h3 h4 => (k1 c h2).trans (h.f c h1 h2 h3 h4), h.kk.set v (.inl rfl), ?_, ?_, h.na, h.nb, h.ap, fun _ e => (by cases e), fun _ e => (by cases e), ?_⟩
  · exact h.a.same fun k hk => k1 k fun e => h.a.neT h.blk (by decide) (e ▸ hk)
  · exact h.c.same fun k hk => k1 k fun e => h.c.neT h.blk (by decide) (e ▸ hk)
  · rw [← he]
    exact heap_setCell_same _ _ h.blk
end
def AddV (b : Nat) (vl vw : Value) (x y : Int) : Nat → Value → Prop
  | 0, v => v = .pointer (some ⟨b, 0, none⟩)
  | 1, v => v = .pointer (some ⟨b, 0, none⟩)
  | 2, v => v = .pointer (some ⟨b, 0, none⟩)
  | 3, v => v = .pointer (some ⟨b, 0, none⟩)
  | 4, v => v = .pointer (some ⟨b, 1, none⟩)
  | 5, v => v = vl
  | 6, v => v = .int .i64 x
  | 9, v => v = .pointer (some ⟨b, 0, none⟩)
  | 10, v => v = .pointer (some ⟨b, 0, none⟩)
  | 11, v => v = .pointer (some ⟨b, 2, none⟩)
  | 12, v => v = vw
  | 13, v => v = .int .i64 y
  | 16, v => v = .pointer (some ⟨b, 0, none⟩)
  | 17, v => v = .pointer (some ⟨b, 1, none⟩)
  | 19, v => v = .pointer (some ⟨b, 0, none⟩)
  | 20, v => v = .pointer (some ⟨b, 2, none⟩)
  | _, _ => True
set_option maxRecDepth 100000 in
set_option maxHeartbeats 8000000 in
theorem add_any (w0 w : World) (b gm : Nat) (vc vl vw : Value) (t : Cd.Tr) (h : LTr w0 w b gm vc vl vw t) (x y : Int) (hx : I64 x) (hl : t.lits.length ≤ 100000) (hy : t.why.length ≤ 100000) :
    Calls Tryz.prog 114 #[.pointer (some ⟨b, 0, none⟩), .int .i64 x, .int .i64 y] w fun e w' => e = .returned (.tuple #[]) ∧ ∃ vl' vw', LTr w0 w' b gm vc vl' vw' ⟨t.lits ++ [x], t.why ++ [y]⟩ ∧ TrT w w' b gm vl vw vl' vw' := by
  have HT := Lib.hid h
  have HX := Lib.hid hx
  obtain ⟨ol, cl, rfl⟩ := h.l.len
  obtain ⟨oy, cy, rfl⟩ := h.y.len
  have tb := Lib.hid h.tb
  clear h hx
  go_enter Tryz.func114, Tryz.ntmps114
  go_upto_region 0 with fail
  refine wp_region_rel (fun S σ w' => AddC w0 w b gm vc (.slice ol t.lits.length cl) (.slice oy t.why.length cy) t.lits t.why x y (S 7) (S 8) (S 14) (S 15) (S 18) (S 21) (σ 7) (σ 8) (σ 14) (σ 15) w') (fun S d v w => AddV b (.slice ol t.lits.length cl) (.slice oy t.why.length cy) x y d v) (by kernel_rfl) (by kernel_rfl) (by kernel_rfl) (by kernel_rfl) (fun S σ hS => by
    simp only [hS]
    exact ⟨HT.out.k.drew, HT.out.hb, fun c _ _ _ _ => rfl, Fr.of ((Keep.refl _ _).drew), HT.out.l.keep ((Keep.refl _ _).drew), HT.out.y.keep ((Keep.refl _ _).drew), fun e => (by cases e), fun e => (by cases e), HT.out.ap, fun e => (by cases e), fun e => (by cases e), tb.out⟩) _ (fun σ => by
    show putAll _ σ [0, 1, 2, 3, 4, 5, 6, 7, 8, 9, 10, 11, 12, 13, 14, 15, 16, 17, 18, 19, 20, 21] _ = _
    simp only [putAll, List.getElem?_toArray, List.getElem?_cons_zero, List.getElem?_cons_succ, Act.put, List.setIfInBounds_toArray, List.set_cons_zero, List.set_cons_succ]
    rfl) ?_ ?_
  · intro S σ wz hC hall e he HK
    have he : e < 22 := he
    obtain rfl | rfl | rfl | rfl | rfl | rfl | rfl | rfl | rfl | rfl | rfl | rfl | rfl | rfl | rfl | rfl | rfl | rfl | rfl | rfl | rfl | rfl : e = 0 ∨ e = 1 ∨ e = 2 ∨ e = 3 ∨ e = 4 ∨ e = 5 ∨ e = 6 ∨ e = 7 ∨ e = 8 ∨ e = 9 ∨ e = 10 ∨ e = 11 ∨ e = 12 ∨ e = 13 ∨ e = 14 ∨ e = 15 ∨ e = 16 ∨ e = 17 ∨ e = 18 ∨ e = 19 ∨ e = 20 ∨ e = 21 := by omega
    · refine wpAt rfl rfl fun K hK => ?_
      go_simp
      exact hK _ _ ⟨_, hC, fun d _ _ h => h, rfl, rfl⟩
    · refine wpAt rfl rfl fun K hK => ?_
      go_simp
      exact hK _ _ ⟨_, hC, fun d _ _ h => h, rfl, rfl⟩
    · refine wpAt rfl rfl fun K hK => ?_
      go_simp
      exact hK _ _ ⟨_, hC, fun d _ _ h => h, rfl, rfl⟩
    · have h2 : σ 2 = .pointer (some ⟨b, 0, none⟩) := HK.post 2 (by kernel_rfl)
      rw [h2]
      refine wpAt rfl rfl fun K hK => ?_
      go_simp
      exact hK _ _ ⟨_, hC, fun d _ _ h => h, rfl, rfl⟩
    · have h3 : σ 3 = .pointer (some ⟨b, 0, none⟩) := HK.post 3 (by kernel_rfl)
      rw [h3]
      refine wpAt rfl rfl fun K hK => ?_
      go_simp
      exact hK _ _ ⟨_, hC, fun d _ _ h => h, rfl, rfl⟩
    · have h4 : σ 4 = .pointer (some ⟨b, 1, none⟩) := HK.post 4 (by kernel_rfl)
      rw [h4]
      have m0 := cell_of_heap (o := 1) hC.blk rfl
      rw [HK.down 18 (by kernel_rfl)] at m0
      have ml := lt_of_heap hC.blk
      simp only [cond_false] at m0
      refine wpAt rfl rfl fun K hK => ?_
      go_simp
      exact hK _ _ ⟨_, hC, fun d _ _ h => h, rfl, rfl⟩
    · refine wpAt rfl rfl fun K hK => ?_
      go_simp
      exact hK _ _ ⟨_, hC, fun d _ _ h => h, rfl, rfl⟩
    · have h6 : σ 6 = .int .i64 x := HK.post 6 (by kernel_rfl)
      rw [h6]
      refine wpAt rfl rfl fun K hK => ?_
      go_simp
      exact hK _ _ ⟨_, hC.buildA ((Keep.refl _ _).alloc _) (i := wz.heap.size) (blk_at _ _ rfl) (Nat.le_refl _), fun d _ _ h => h, rfl, trivial⟩
    · obtain ⟨v', w2, hr, hc2⟩ := hC.appA hl (HK.up 7 (by kernel_rfl)) HK.self (HK.down 18 (by kernel_rfl))
      have h5 : σ 5 = .slice ol t.lits.length cl := HK.post 5 (by kernel_rfl)
      rw [h5]
      refine wpAt rfl rfl fun K hK => ?_
      refine wp_app_run _ _ 22 _ _ rfl rfl rfl hr ?_
      exact hK _ _ ⟨_, hc2, fun d _ _ h => h, rfl, trivial⟩
    · refine wpAt rfl rfl fun K hK => ?_
      go_simp
      exact hK _ _ ⟨_, hC, fun d _ _ h => h, rfl, rfl⟩
    · have h9 : σ 9 = .pointer (some ⟨b, 0, none⟩) := HK.post 9 (by kernel_rfl)
      rw [h9]
      refine wpAt rfl rfl fun K hK => ?_
      go_simp
      exact hK _ _ ⟨_, hC, fun d _ _ h => h, rfl, rfl⟩
    · have h10 : σ 10 = .pointer (some ⟨b, 0, none⟩) := HK.post 10 (by kernel_rfl)
      rw [h10]
      refine wpAt rfl rfl fun K hK => ?_
      go_simp
      exact hK _ _ ⟨_, hC, fun d _ _ h => h, rfl, rfl⟩
    · have h11 : σ 11 = .pointer (some ⟨b, 2, none⟩) := HK.post 11 (by kernel_rfl)
      rw [h11]
      have m0 := cell_of_heap (o := 2) hC.blk rfl
      rw [HK.down 21 (by kernel_rfl)] at m0
      have ml := lt_of_heap hC.blk
      simp only [cond_false] at m0
      refine wpAt rfl rfl fun K hK => ?_
      go_simp
      exact hK _ _ ⟨_, hC, fun d _ _ h => h, rfl, rfl⟩
    · refine wpAt rfl rfl fun K hK => ?_
      go_simp
      exact hK _ _ ⟨_, hC, fun d _ _ h => h, rfl, rfl⟩
    · have h13 : σ 13 = .int .i64 y := HK.post 13 (by kernel_rfl)
      rw [h13]
      refine wpAt rfl rfl fun K hK => ?_
      go_simp
      exact hK _ _ ⟨_, hC.buildB ((Keep.refl _ _).alloc _) (i := wz.heap.size) (blk_at _ _ rfl) (Nat.le_refl _), fun d _ _ h => h, rfl, trivial⟩
    · obtain ⟨v', w2, hr, hc2⟩ := hC.appB hy (HK.up 14 (by kernel_rfl)) HK.self (HK.down 21 (by kernel_rfl))
      have h12 : σ 12 = .slice oy t.why.length cy := HK.post 12 (by kernel_rfl)
      rw [h12]
      refine wpAt rfl rfl fun K hK => ?_
      refine wp_app_run _ _ 22 _ _ rfl rfl rfl hr ?_
      exact hK _ _ ⟨_, hc2, fun d _ _ h => h, rfl, trivial⟩
    · have h0 : σ 0 = .pointer (some ⟨b, 0, none⟩) := HK.post 0 (by kernel_rfl)
      rw [h0]
      refine wpAt rfl rfl fun K hK => ?_
      go_simp
      exact hK _ _ ⟨_, hC, fun d _ _ h => h, rfl, rfl⟩
    · have h16 : σ 16 = .pointer (some ⟨b, 0, none⟩) := HK.post 16 (by kernel_rfl)
      rw [h16]
      refine wpAt rfl rfl fun K hK => ?_
      go_simp
      exact hK _ _ ⟨_, hC, fun d _ _ h => h, rfl, rfl⟩
    · have hu := HK.up 8 (by kernel_rfl)
      obtain ⟨o', c', hv⟩ := (show OwnI wz _ (σ 8) _ from by have := hC.a; rw [hu] at this; exact this).len
      simp only [cond_true, List.length_append, List.length_singleton] at hv
      have h17 : σ 17 = .pointer (some ⟨b, 1, none⟩) := HK.post 17 (by kernel_rfl)
      rw [h17]
      rw [hv]
      have m0 := cell_of_heap (o := 1) hC.blk rfl
      have m1 := Blk.free (A := _) ⟨_, hC.blk⟩ 1
      have ml := lt_of_heap hC.blk
      refine wpAt rfl rfl fun K hK => ?_
      go_simp
      exact hK _ _ ⟨undef, hC.set (by rw [← hv]; rfl) (HK.up 8 (by kernel_rfl)) (HK.up 15 (by kernel_rfl)), fun d _ _ h => h, rfl, trivial⟩
    · have h1 : σ 1 = .pointer (some ⟨b, 0, none⟩) := HK.post 1 (by kernel_rfl)
      rw [h1]
      refine wpAt rfl rfl fun K hK => ?_
      go_simp
      exact hK _ _ ⟨_, hC, fun d _ _ h => h, rfl, rfl⟩
    · have h19 : σ 19 = .pointer (some ⟨b, 0, none⟩) := HK.post 19 (by kernel_rfl)
      rw [h19]
      refine wpAt rfl rfl fun K hK => ?_
      go_simp
      exact hK _ _ ⟨_, hC, fun d _ _ h => h, rfl, rfl⟩
    · have hu := HK.up 15 (by kernel_rfl)
      obtain ⟨o', c', hv⟩ := (show OwnI wz _ (σ 15) _ from by have := hC.c; rw [hu] at this; exact this).len
      simp only [cond_true, List.length_append, List.length_singleton] at hv
      have h20 : σ 20 = .pointer (some ⟨b, 2, none⟩) := HK.post 20 (by kernel_rfl)
      rw [h20]
      rw [hv]
      have m0 := cell_of_heap (o := 2) hC.blk rfl
      have m1 := Blk.free (A := _) ⟨_, hC.blk⟩ 2
      have ml := lt_of_heap hC.blk
      refine wpAt rfl rfl fun K hK => ?_
      go_simp
      exact hK _ _ ⟨undef, hC.set (by rw [← hv]; rfl) (HK.up 8 (by kernel_rfl)) (HK.up 15 (by kernel_rfl)), fun d _ _ h => h, rfl, trivial⟩
  · intro S σ w9 hC hS hP
    simp only [hS 7 (show 7 < 22 by omega), hS 8 (show 8 < 22 by omega), hS 14 (show 14 < 22 by omega), hS 15 (show 15 < 22 by omega), hS 18 (show 18 < 22 by omega), hS 21 (show 21 < 22 by omega)] at hC
    refine NoPanic.normal ?_
    generalize σ 8 = va at *
    generalize σ 15 = vb at *
    have HC := Lib.hid hC
    have hgm : w9.heap[gm]? = w.heap[gm]? := hC.f gm HT.out.m.lt (fun e => HT.out.ne e.symm) (HT.out.l.nmT HT.out.m) (HT.out.y.nmT HT.out.m)
    have HV9 := Lib.hid (HT.out.m.same hgm)
    obtain ⟨w10, hrun, hv10, hg10⟩ := HV9.out.put (x := x) (by unfold maxLen; omega) HX.out
    have HV := Lib.hid hv10
    have HG := Lib.hid hg10
    have c3 := cell_of_heap (o := 3) hC.blk rfl
    have hb9 := lt_of_heap hC.blk
    clear hC hS hP hgm hv10 hg10
    go_wp2
    refine bodyPost_end (by simp [results, Tryz.results114, go_sem]; rfl) rfl ?_
    have kg : ∀ c, c < w9.heap.size → c ≠ gm → w10.heap[c]? = w9.heap[c]? := fun c h1 h2 => HG.out.block c h1 fun e => h2 (Option.some.inj e)
    refine ⟨rfl, va, vb, ⟨HC.out.k.grown HG.out fun k hk => (by cases hk; exact HT.out.hm), HC.out.hb, HT.out.hm, ?_, HC.out.a.same fun k hk => kg k (HC.out.a.ltT k hk) ?_, HC.out.c.same fun k hk => kg k (HC.out.c.ltT k hk) ?_, HV.out, HC.out.ap⟩, HC.out.kk.grown HG.out (fun k hk _ => .inr (.inl (Option.some.inj hk).symm)), HC.out.na rfl, HC.out.nb rfl⟩
    · rw [kg b hb9 HT.out.ne]
      exact HC.out.blk
    · rintro rfl
      exact HC.out.a.nmT HV9.out hk
    · rintro rfl
      exact HC.out.c.nmT HV9.out hk
end Go.Proofs.YtnndmdfjdodiiaaGreat

namespace Go.Proofs.YtnndmdfjdodiiaaGreat
open Go.ChangeShapes Go.WideShapes Go.RowKit Go.Maps
set_option linter.unusedVariables false
set_option linter.unusedSimpArgs false

/-- Integers in blocks of a set. -/
def IntsIn (P : Nat → Prop) (w : World) (v : Value) (l : List Int) : Prop :=
  ∃ oa cap, v = .slice oa l.length cap ∧ l.length ≤ maxLen ∧ (∀ x ∈ l, I64 x) ∧ (l ≠ [] → ∃ b o, oa = some ⟨b, o, none⟩ ∧ b < w.heap.size ∧ P b ∧ ∀ i x, l[i]? = some x → w.cell? ⟨b, o + i, none⟩ = some (.int .i64 x))
/-- Clauses in blocks of a set. -/
def ClsIn (P : Nat → Prop) (w : World) (v : Value) (l : List (List Int)) : Prop :=
  ∃ oa cap, v = .slice oa l.length cap ∧ l.length ≤ cap ∧ cap ≤ maxLen ∧ (l ≠ [] → ∃ b o, oa = some ⟨b, o, none⟩ ∧ b < w.heap.size ∧ P b ∧ ∀ i c, l[i]? = some c → ∃ sv, w.cell? ⟨b, o + i, none⟩ = some sv ∧ IntsIn P w sv c ∧ CapS sv)
theorem IntsIn.ints {P : Nat → Prop} {w : World} {v : Value} {l : List Int} (h : IntsIn P w v l) : IsInts w v l := by
  obtain ⟨oa, cap, h1, h2, h3, h4⟩ := h
  exact ⟨oa, cap, h1, h2, h3, fun hne => by obtain ⟨b, o, e, hb, _, hc⟩ := h4 hne; exact ⟨b, o, e, hb, hc⟩⟩
theorem ClsIn.cls {P : Nat → Prop} {w : World} {v : Value} {l : List (List Int)} (h : ClsIn P w v l) : IsCls w v l := by
  obtain ⟨oa, cap, h1, h2, h3, h4⟩ := h
  refine ⟨oa, cap, h1, h2, h3, fun hne => ?_⟩
  obtain ⟨b, o, e, hb, _, hc⟩ := h4 hne
  exact ⟨b, o, e, hb, fun i c hi => by obtain ⟨sv, q1, q2, q3⟩ := hc i c hi; exact ⟨sv, q1, q2.ints, q3⟩⟩
theorem cell_fr {P : Nat → Prop} {w w' : World} (hs : w.heap.size ≤ w'.heap.size) (hp : ∀ k, k < w.heap.size → P k → w'.heap[k]? = w.heap[k]?) {b i : Nat} (hb : b < w.heap.size) (h : P b) : w'.cell? ⟨b, i, none⟩ = w.cell? ⟨b, i, none⟩ := World.cell?_of_block (w := w) (hp b hb h)
theorem IntsIn.fr {P : Nat → Prop} {w w' : World} {v : Value} {l : List Int} (h : IntsIn P w v l) (hs : w.heap.size ≤ w'.heap.size) (hp : ∀ k, k < w.heap.size → P k → w'.heap[k]? = w.heap[k]?) : IntsIn P w' v l := by
  obtain ⟨oa, cap, h1, h2, h3, h4⟩ := h
  refine ⟨oa, cap, h1, h2, h3, fun hne => ?_⟩
  obtain ⟨b, o, e, hb, hpb, hc⟩ := h4 hne
  exact ⟨b, o, e, Nat.lt_of_lt_of_le hb hs, hpb, fun i x hi => (cell_fr hs hp hb hpb).trans (hc i x hi)⟩
theorem ClsIn.fr {P : Nat → Prop} {w w' : World} {v : Value} {l : List (List Int)} (h : ClsIn P w v l) (hs : w.heap.size ≤ w'.heap.size) (hp : ∀ k, k < w.heap.size → P k → w'.heap[k]? = w.heap[k]?) : ClsIn P w' v l := by
  obtain ⟨oa, cap, h1, h2, h3, h4⟩ := h
  refine ⟨oa, cap, h1, h2, h3, fun hne => ?_⟩
  obtain ⟨b, o, e, hb, hpb, hc⟩ := h4 hne
  refine ⟨b, o, e, Nat.lt_of_lt_of_le hb hs, hpb, fun i c hi => ?_⟩
  obtain ⟨sv, q1, q2, q3⟩ := hc i c hi
  exact ⟨sv, (cell_fr hs hp hb hpb).trans q1, q2.fr hs hp, q3⟩
theorem ClsIn.keep {P : Nat → Prop} {w w' : World} {v : Value} {l : List (List Int)} (h : ClsIn P w v l) (k : Keep NoS w w') : ClsIn P w' v l := h.fr k.size fun n hn _ => k.block n hn fun _ h => h
theorem IntsIn.mono {P P' : Nat → Prop} {w : World} {v : Value} {l : List Int} (h : IntsIn P w v l) (hp : ∀ k, k < w.heap.size → P k → P' k) : IntsIn P' w v l := by
  obtain ⟨oa, cap, h1, h2, h3, h4⟩ := h
  exact ⟨oa, cap, h1, h2, h3, fun hne => by obtain ⟨b, o, e, hb, hpb, hc⟩ := h4 hne; exact ⟨b, o, e, hb, hp b hb hpb, hc⟩⟩
theorem ClsIn.mono {P P' : Nat → Prop} {w : World} {v : Value} {l : List (List Int)} (h : ClsIn P w v l) (hp : ∀ k, k < w.heap.size → P k → P' k) : ClsIn P' w v l := by
  obtain ⟨oa, cap, h1, h2, h3, h4⟩ := h
  refine ⟨oa, cap, h1, h2, h3, fun hne => ?_⟩
  obtain ⟨b, o, e, hb, hpb, hc⟩ := h4 hne
  exact ⟨b, o, e, hb, hp b hb hpb, fun i c hi => by obtain ⟨sv, q1, q2, q3⟩ := hc i c hi; exact ⟨sv, q1, q2.mono hp, q3⟩⟩
theorem IsInts.inn {w : World} {v : Value} {l : List Int} (h : IsInts w v l) : IntsIn (fun k => k < w.heap.size) w v l := by
  obtain ⟨oa, cap, h1, h2, h3, h4⟩ := h
  exact ⟨oa, cap, h1, h2, h3, fun hne => by obtain ⟨b, o, e, hb, hc⟩ := h4 hne; exact ⟨b, o, e, hb, hb, hc⟩⟩
theorem IsCls.inn {w : World} {v : Value} {l : List (List Int)} (h : IsCls w v l) : ClsIn (fun k => k < w.heap.size) w v l := by
  obtain ⟨oa, cap, h1, h2, h3, h4⟩ := h
  refine ⟨oa, cap, h1, h2, h3, fun hne => ?_⟩
  obtain ⟨b, o, e, hb, hc⟩ := h4 hne
  exact ⟨b, o, e, hb, hb, fun i c hi => by obtain ⟨sv, q1, q2, q3⟩ := hc i c hi; exact ⟨sv, q1, q2.inn, q3⟩⟩
/-- What is not of the trail. -/
structure OffT (P : Nat → Prop) (w : World) (b gm : Nat) (vl vw : Value) : Prop where
  lt : ∀ k, P k → k < w.heap.size
  off : ∀ k, P k → ¬ TrS b gm vl vw k
theorem OffT.step {P : Nat → Prop} {w w' : World} {b gm : Nat} {vl vw vl' vw' : Value} (h : OffT P w b gm vl vw) (k : TrT w w' b gm vl vw vl' vw') : OffT P w' b gm vl' vw' := by
  refine ⟨fun n hn => Nat.lt_of_lt_of_le (h.lt n hn) k.k.size, fun n hn hS => ?_⟩
  have h1 := h.lt n hn
  rcases hS with e | e | e | e
  · exact h.off n hn (.inl e)
  · exact h.off n hn (.inr (.inl e))
  · rcases k.l with q | ⟨j, q, hj⟩
    · exact h.off n hn (.inr (.inr (.inl (q ▸ e))))
    · rw [q] at e; cases e; omega
  · rcases k.y with q | ⟨j, q, hj⟩
    · exact h.off n hn (.inr (.inr (.inr (q ▸ e))))
    · rw [q] at e; cases e; omega
theorem ClsIn.trt {P : Nat → Prop} {w w' : World} {b gm : Nat} {vl vw vl' vw' v : Value} {l : List (List Int)} (h : ClsIn P w v l) (ho : OffT P w b gm vl vw) (k : TrT w w' b gm vl vw vl' vw') : ClsIn P w' v l := h.fr k.k.size fun n hn hp => k.k.block n hn (ho.off n hp)
theorem lit_64 {vars : Nat} {cls : List (List Int)} (h : Cd.ClsOK vars cls) (hv : vars ≤ 1000) {c : List Int} (hc : c ∈ cls) : ∀ x ∈ c, I64 (-x) := fun x hx => by
  have := ((h c hc).2 x hx).2
  unfold I64
  omega
def firstI : Option Nat → Int
  | none => -1
  | some k => k
theorem scan_end {T : List Int} {cls : List (List Int)} {k i : Nat} {f : Option Nat} (hk : cls.length ≤ k) : Cd.scanG T (cls.drop k) i f = .inr f := by rw [List.drop_eq_nil_of_le hk]; rfl
theorem scan_atk {T : List Int} {cls : List (List Int)} {k i : Nat} {f : Option Nat} (hk : k < cls.length) : Cd.scanG T (cls.drop k) i f = if (Cd.stF T cls[k]).1 then .inl i else Cd.scanG T (cls.drop (k + 1)) (i + 1) (if (Cd.stF T cls[k]).2 ≠ 0 ∧ f = none then some i else f) := by
  rw [List.drop_eq_getElem_cons hk]; rfl
end Go.Proofs.YtnndmdfjdodiiaaGreat

namespace Go.Proofs.YtnndmdfjdodiiaaGreat
open Go.ChangeShapes Go.WideShapes Go.RowKit Go.Maps
set_option linter.unusedVariables false
set_option linter.unusedSimpArgs false

theorem run_inl {T W : List Int} {cls : List (List Int)} {n i : Nat} (h : Cd.scanG T cls 0 none = .inl i) : Cd.runF (n + 1) cls ⟨T, W⟩ = (⟨T, W⟩, (i : Int)) := by
  unfold Cd.runF; simp only [h]
theorem run_none {T W : List Int} {cls : List (List Int)} {n : Nat} (h : Cd.scanG T cls 0 none = .inr none) : Cd.runF (n + 1) cls ⟨T, W⟩ = (⟨T, W⟩, -1) := by
  unfold Cd.runF; simp only [h]
theorem run_some {T W : List Int} {cls : List (List Int)} {n i : Nat} (h : Cd.scanG T cls 0 none = .inr (some i)) : Cd.runF (n + 1) cls ⟨T, W⟩ = Cd.runF n cls ⟨T ++ [(Cd.stF T (cls.getD i [])).2], W ++ [(i : Int)]⟩ := by
  conv => lhs; unfold Cd.runF
  simp only [h]
/-- What stands ahead of a pass. -/
structure RunI (vars : Nat) (cls : List (List Int)) (t0 t : Cd.Tr) (N n : Nat) : Prop where
  eq : Cd.runF N cls t0 = Cd.runF n cls t
  good : Cd.GoodT vars t.lits
  why : t.why.length = t.lits.length
  lt : vars < n + t.lits.length
theorem RunI.next {vars : Nat} {cls : List (List Int)} (hok : Cd.ClsOK vars cls) (hv : vars ≤ 1000) {t0 : Cd.Tr} {T W : List Int} {N n k : Nat} (h : RunI vars cls t0 ⟨T, W⟩ N (n + 1)) (hs : Cd.scanG T cls 0 none = .inr (some k)) (hk : k < cls.length) :
    I64 (Cd.stF T cls[k]).2 ∧ T.length ≤ 1000 ∧ W.length ≤ 1000 ∧ RunI vars cls t0 ⟨T ++ [(Cd.stF T cls[k]).2], W ++ [(k : Int)]⟩ N n := by
  obtain ⟨h1, h2, h3⟩ := Cd.scanG_inr hs
  have hm := List.getElem_mem hk
  have h5 : (Cd.stF T cls[k]).2 ≠ 0 := by
    rcases h3 k rfl with q | ⟨-, c, h4, h5⟩
    · cases q
    · rw [Nat.sub_zero, List.getElem?_eq_getElem hk] at h4
      cases h4
      exact h5
  obtain ⟨u1, u2, u3, u4⟩ := Cd.stF_unit (vars := vars) (hok _ hm).2 (h1 _ hm) h5
  have hr := ((hok _ hm).2 _ u1).2
  have hgl := h.good.le
  have hwl := h.why
  have hlt := h.lt
  simp only at hgl hwl hlt
  refine ⟨by unfold I64; omega, by omega, by omega, ?_, h.good.push h5 hr u2 u3, by simp [hwl], by simp; omega⟩
  rw [h.eq, run_some hs]
  have e : cls.getD k [] = cls[k] := by rw [List.getD_eq_getElem?_getD, List.getElem?_eq_getElem hk]; rfl
  rw [e]
set_option maxRecDepth 100000 in
set_option maxHeartbeats 16000000 in
theorem run_any (P : Nat → Prop) (vars : Nat) (w0 w : World) (b gm : Nat) (oc : Option Addr) (cc : Nat) (vl vw : Value) (t : Cd.Tr) (cls : List (List Int)) (N : Nat) (h : LTr w0 w b gm (.slice oc cls.length cc) vl vw t) (hP : OffT P w b gm vl vw) (hc : ClsIn P w (.slice oc cls.length cc) cls) (hok : Cd.ClsOK vars cls) (hv : vars ≤ 1000) (hg : Cd.GoodT vars t.lits) (hw : t.why.length = t.lits.length) (hN : vars < N + t.lits.length) :
    Calls Tryz.prog 107 #[.pointer (some ⟨b, 0, none⟩)] w fun e w' => e = .returned (.int .i64 (Cd.runF N cls t).2) ∧ ∃ vl' vw', LTr w0 w' b gm (.slice oc cls.length cc) vl' vw' (Cd.runF N cls t).1 ∧ TrT w w' b gm vl vw vl' vw' := by
  have HR : Hid (RunI vars cls t t N N) := Lib.hid ⟨rfl, hg, hw, hN⟩
  have H := Lib.hid h
  have HP := Lib.hid hP
  have HC := Lib.hid hc
  have HOK := Lib.hid hok
  obtain ⟨m, hm⟩ : ∃ m, cls.length = m := ⟨_, rfl⟩
  have HM := Lib.hid hm
  have hcap : m ≤ maxLen := by obtain ⟨_, _, e, h1, h2⟩ := hc.cls.len; cases e; omega
  unfold maxLen at hcap
  rw [hm] at H HC ⊢
  clear h hP hc hok hg hw hN hm
  go_enter Tryz.func107, Tryz.ntmps107
  go_wp2
  go_loopg [] N (fun gk wr => ∃ t1 vl1 vw1, LTr w0 wr b gm (.slice oc m cc) vl1 vw1 t1 ∧ TrT w wr b gm vl vw vl1 vw1 ∧ RunI vars cls t t1 N gk)
  case atStart => exact ⟨t, vl, vw, H.out, TrT.refl _ _ _ _ _, HR.out⟩
  case round =>
  obtain ⟨⟨T, W⟩, vl1, vw1, hl, ht, hr⟩ := hrel
  obtain ⟨n, rfl⟩ : ∃ n, gk = n + 1 := by
    rcases gk with _ | n
    · have h1 := hr.good.le
      have h2 := hr.lt
      simp only at h1 h2
      omega
    · exact ⟨n, rfl⟩
  have HL := Lib.hid hl
  have HT := Lib.hid ht
  have HR1 := Lib.hid hr
  have HO := Lib.hid (HP.out.step ht)
  have HC1 := Lib.hid (HC.out.trt HP.out ht)
  have c0 := cell_of_heap (o := 0) hl.tb rfl
  have hb := lt_of_heap hl.tb
  clear hl ht hr H HR
  obtain ⟨w1, hw1⟩ : ∃ W : World, W = wr := ⟨_, rfl⟩
  subst hw1
  go_wp2
  go_loopw [15, 3] (fun s f wr => ∃ (k : Nat) (g : Option Nat), k ≤ m ∧ s = .int .i64 k ∧ f = .int .i64 (firstI g) ∧ wr = w1 ∧ Cd.scanG T cls 0 none = Cd.scanG T (cls.drop k) k g ∧ (∀ j, g = some j → j < m)) (fun s _ _ => (m - intOf s).toNat)
  case atStart => exact ⟨0, none, by omega, rfl, rfl, rfl, rfl, fun j h => by cases h⟩
  case round =>
    obtain ⟨k, g, hk, rfl, rfl, hwr, hsc, hgm⟩ := hrel
    have hwr : w1 = wr := hwr.symm
    subst hwr
    have HSC := Lib.hid hsc
    have HGM := Lib.hid hgm
    clear hsc hgm
    by_cases hkl : k < m
    case pos =>
      have hlt : (k : Int) < (m : Int) := by omega
      have hkc : k < cls.length := by rw [HM.out]; exact hkl
      obtain ⟨bc, fc, ol, cl, rfl, hbc, p0, hints, _⟩ := HC1.out.cls.at hkc
      have CS := fun w' (e : w' = w1) => Lib.hid (state_any w0 w' b gm _ _ _ ⟨T, W⟩ (e ▸ HL.out) _ _ (e ▸ hints) (lit_64 HOK.out hv (List.getElem_mem hkc)))
      have HST := Lib.hid (HSC.out.trans (scan_atk hkc))
      simp only at CS
      generalize Cd.stF T cls[k] = r at *
      obtain ⟨r1, r2⟩ := r
      simp only at HST CS
      have CS := CS w1 rfl
      clear HSC hints
      go_wp2_with fail
      refine CS.out.mono ?_
      rintro e w2 ⟨rfl, hw2⟩
      subst hw2
      cases r1
      case true =>
        have HE : Hid (Cd.runF N cls t = (⟨T, W⟩, (k : Int))) := Lib.hid (HR1.out.eq.trans (run_inl (HST.out.trans (by rw [if_pos rfl]))))
        clear HST CS
        go_wp2
        refine bodyPost_ret (by simp [results, Tryz.results107, go_sem]; rfl) rfl ?_
        rw [HE.out]
        exact ⟨rfl, vl1, vw1, HL.out, HT.out⟩
      case false =>
        clear CS
        by_cases hr2 : r2 = 0
        case pos =>
          subst hr2
          have HE : Hid (Cd.scanG T cls 0 none = Cd.scanG T (cls.drop (k + 1)) (k + 1) g) := Lib.hid (HST.out.trans (by rw [if_neg (by decide)]; simp))
          clear HST
          go_wp2
          go_roundw
          case rel => exact ⟨k + 1, g, by omega, by go_num, rfl, by trivial, HE.out, HGM.out⟩
          case measure => simp [intOf]; omega
        case neg =>
          have e1 : (r2 != 0) = true := by rw [bne_iff_ne]; exact hr2
          rcases g with _ | j
          · have HE : Hid (Cd.scanG T cls 0 none = Cd.scanG T (cls.drop (k + 1)) (k + 1) (some k)) := Lib.hid (HST.out.trans (by rw [if_neg (by decide)]; simp [hr2]))
            have hfi : firstI none = -1 := rfl
            rw [hfi]
            clear HST hr2 HGM hfi
            go_wp2
            go_roundw
            case rel => exact ⟨k + 1, some k, by omega, by go_num, rfl, by trivial, HE.out, fun j h => by cases h; omega⟩
            case measure => simp [intOf]; omega
          · have HE : Hid (Cd.scanG T cls 0 none = Cd.scanG T (cls.drop (k + 1)) (k + 1) (some j)) := Lib.hid (HST.out.trans (by rw [if_neg (by decide)]; simp))
            have hfi : firstI (some j) = (j : Int) := rfl
            rw [hfi]
            have hj0 : ¬ (j : Int) < 0 := by omega
            clear HST hr2 hfi
            go_wp2
            go_roundw
            case rel => exact ⟨k + 1, some j, by omega, by go_num, rfl, by trivial, HE.out, HGM.out⟩
            case measure => simp [intOf]; omega
    case neg =>
      have hlt : ¬ (k : Int) < (m : Int) := by omega
      have HS := Lib.hid (HSC.out.trans (scan_end (by rw [HM.out]; omega)))
      clear HSC
      rcases g with _ | j
      · have HE : Hid (Cd.runF N cls t = (⟨T, W⟩, -1)) := Lib.hid (HR1.out.eq.trans (run_none HS.out))
        have hfi : firstI none = -1 := rfl
        rw [hfi]
        clear HS HGM hfi
        go_wp2
        refine bodyPost_ret (by simp [results, Tryz.results107, go_sem]; rfl) rfl ?_
        rw [HE.out]
        exact ⟨rfl, vl1, vw1, HL.out, HT.out⟩
      · have hjm : j < m := HGM.out j rfl
        have hjc : j < cls.length := by rw [HM.out]; exact hjm
        have hjI : (j : Int) < (m : Int) := by omega
        have hj0 : ¬ (j : Int) < 0 := by omega
        have hfi : firstI (some j) = (j : Int) := rfl
        rw [hfi]
        obtain ⟨hl64, hT1, hW1, hnx⟩ := RunI.next HOK.out hv HR1.out HS.out hjc
        obtain ⟨bc, fc, ol, cl, rfl, hbc, p0, hints, _⟩ := HC1.out.cls.at hjc
        have CS := Lib.hid (state_any w0 w1 b gm _ _ _ ⟨T, W⟩ HL.out _ _ hints (lit_64 HOK.out hv (List.getElem_mem hjc)))
        simp only at CS
        generalize Cd.stF T cls[j] = r at *
        obtain ⟨r1, r2⟩ := r
        simp only at hl64 hnx CS
        have HNX := Lib.hid hnx
        have CA := Lib.hid (add_any w0 w1 b gm _ _ _ ⟨T, W⟩ HL.out r2 j hl64 (by simp only; omega) (by simp only; omega))
        clear hints hnx hfi HS hl64 HGM
        go_wp2_with fail
        refine CS.out.mono ?_
        rintro e w2 ⟨rfl, hw2⟩
        subst hw2
        clear CS
        go_wp2_with fail
        refine CA.out.mono ?_
        rintro e w3 ⟨rfl, vl2, vw2, hl3, ht3⟩
        have HL3 := Lib.hid hl3
        have HT3 := Lib.hid (HT.out.step ht3)
        clear hl3 ht3 CA
        go_wp2
        go_roundg n
        case measure => omega
        case rel => exact ⟨_, vl2, vw2, HL3.out, HT3.out, HNX.out⟩
end Go.Proofs.YtnndmdfjdodiiaaGreat
