/- Package form: Fits, atoms. -/
import Derived.Test.YtnndmdfjdodiiaaGreatTtFa
namespace Go.Proofs.YtnndmdfjdodiiaaGreat
open Go.ChangeShapes Go.WideShapes Go.RowKit Go.Maps
set_option linter.unusedVariables false
set_option linter.unusedSimpArgs false

abbrev TMd : TypeId := 46
/-- A model without numbers, as its parts lie. -/
structure MdL where
  oh : Option Addr
  ch : Nat
  g : Nat
  cg : Nat
  on : Option Addr
  cn : Nat
def MdL.v (M : MdL) (m n : Nat) : Value := .agg #[.slice M.oh m M.ch, .slice (some ⟨M.g, 0, none⟩) n M.cg, .slice M.on 0 M.cn]
structure IsMd (w : World) (M : MdL) (f : Sv.Frm) (holds : List Bool) (th : List Int) : Prop where
  h : IsBools w (.slice M.oh f.atoms.length M.ch) holds
  hl : holds.length = f.atoms.length
  t : w.heap[M.g]? = some (.cells (iv th).toArray TI (0, 0))
  tk : Cl.ClOK f.terms.length th
  tn : f.terms.length ≤ 60
theorem IsMd.keep {w w' : World} {M : MdL} {f : Sv.Frm} {holds : List Bool} {th : List Int} (h : IsMd w M f holds th) (k : Keep NoS w w') : IsMd w' M f holds th :=
  ⟨h.h.keep k, h.hl, (k.block M.g (lt_of_heap h.t) fun _ h => h).trans h.t, h.tk, h.tn⟩
theorem blk_ints {w : World} {g n c : Nat} {l : List Int} (h : w.heap[g]? = some (.cells (iv l).toArray TI (0, 0))) (hl : l.length = n) (hn : n ≤ 1000) (hx : ∀ x ∈ l, I64 x) : IsInts w (.slice (some ⟨g, 0, none⟩) n c) l := by
  subst hl
  refine ⟨_, c, rfl, by unfold maxLen; omega, hx, fun _ => ⟨g, 0, rfl, lt_of_heap h, fun i x hi => ?_⟩⟩
  refine cell_of_heap h ?_
  rw [Nat.zero_add, List.getElem?_toArray, iv_get, hi]; rfl
theorem cff1 (a : Array Value) (w : World) : Sem.run Tryz.prog (callFunc 123 a) w = .ok (.enter 123 a) w := by kernel_rfl
theorem ff1_any (w : World) (x : Int) (h0 : 0 ≤ x) (h1 : x ≤ 1000) : Calls Tryz.prog 123 #[.int .i64 x] w fun e w' => e = .returned (.bool false) ∧ Keep NoS w w' := by
  have e1 : ¬ x < 0 := by omega
  have e2 : ¬ (1000 : Int) < x := by omega
  go_enter Tryz.func123, Tryz.ntmps123
  go_wp2
  go_ret
  exact ⟨rfl, by (repeat' (with_reducible first | assumption | exact HK.out | exact keR | refine keA ?_ | refine keS ?_ fun h => absurd h (by omega) | refine keN ?_ | refine keD ?_))⟩
set_option maxRecDepth 100000 in
theorem fracIdx0_any (w : World) (on : Option Addr) (cn f : Nat) : Calls Tryz.prog 124 #[.slice on 0 cn, .func (.func f) #[] #[]] w fun e w' => e = .returned (.int .i64 (-1)) ∧ Keep NoS w w' := by
  go_enter Tryz.func124, Tryz.ntmps124
  go_wp2
  go_loopw [8] (fun s wr => s = .int .i64 0 ∧ Keep NoS w wr) (fun _ _ => 0)
  case atStart => exact ⟨rfl, by (repeat' (with_reducible first | assumption | exact HK.out | exact keR | refine keA ?_ | refine keS ?_ fun h => absurd h (by omega) | refine keN ?_ | refine keD ?_))⟩
  case round =>
  obtain ⟨rfl, hk⟩ := hrel
  have K := Lib.hid hk
  clear hk
  go_wp2
  go_ret
  exact ⟨rfl, K.out⟩
set_option maxRecDepth 100000 in
set_option maxHeartbeats 16000000 in
theorem fits_any (w : World) (L : FmL) (M : MdL) (f : Sv.Frm) (holds : List Bool) (th : List Int) (h : IsForm w L f) (hok : FmOK f) (hm : IsMd w M f holds th) :
    Calls Tryz.prog 89 #[L.v f, M.v f.atoms.length f.terms.length] w fun e w' => e = .returned (.agg #[.int .i64 0, .int .i64 0]) ∧ Keep NoS w w' := by
  have CC := Lib.hid (fun w' (k : Keep NoS w w') => fcheck_any w' L f (h.keep k) hok)
  have HTI := Lib.hid (fun w' (k : Keep NoS w w') => blk_ints (c := M.cg) (hm.keep k).t hm.tk.len (by have := hm.tn; omega) fun x hx => by have := hm.tk.rg x hx; have := hm.tn; unfold I64; omega)
  have HTR := Lib.hid (fun x (hx : x ∈ th) => hm.tk.rg x hx)
  have hn := hm.tn
  have hidx : idxP (fun _ : Int => false) th 0 = -1 := by
    have : ∀ (l : List Int) (i : Nat), idxP (fun _ : Int => false) l i = -1 := by
      intro l
      induction l with
      | nil => intro i; rfl
      | cons x l ih => intro i; unfold idxP; rw [if_neg (by decide)]; exact ih _
    exact this th 0
  have CI := Lib.hid (fun w' (k : Keep NoS w w') => intIndex_any 123 #[] cff1 (fun _ => false) w' _ th (HTI.out w' k) fun w'' kk x hx => ff1_any w'' x (HTR.out x hx).1 (by have := (HTR.out x hx).2; omega))
  rw [hidx] at CI
  have CF := fun w' => Lib.hid (fracIdx0_any w' M.on M.cn 125)
  unfold FmL.v MdL.v
  unfold FmL.v at CC
  obtain ⟨ot, ct, oa, ca, oc, cc⟩ := L
  obtain ⟨oh, ch, g, cg, on, cn⟩ := M
  simp only at CC CI CF ⊢
  generalize f.terms.length = n at *
  generalize f.atoms.length = m at *
  generalize f.cls.length = q at *
  clear h hok hm hidx HTI
  obtain ⟨w2, hw2⟩ : ∃ w2 : World, w2 = ((w.alloc (.cells #[.slice ot n ct, .slice none 0 0, .slice oa m ca, .slice oc q cc] TFm)).alloc (.cells #[.slice oh m ch, .slice (some ⟨g, 0, none⟩) n cg, .slice on 0 cn] TMd)).alloc (.cells #[.int .i64 0, .int .i64 0] TFa) := ⟨_, rfl⟩
  obtain ⟨b2, hb2⟩ : ∃ b2, b2 = w.heap.size + 1 := ⟨_, rfl⟩
  obtain ⟨b3, hb3⟩ : ∃ b3, b3 = b2 + 1 := ⟨_, rfl⟩
  have K2 : Hid (Keep NoS w w2) := Lib.hid (by rw [hw2]; exact (((Keep.refl _ _).alloc _).alloc _).alloc _)
  have HB1 : Hid (w2.heap[w.heap.size]? = some (.cells #[.slice ot n ct, .slice none 0 0, .slice oa m ca, .slice oc q cc] TFm (0, 0))) := Lib.hid (by rw [hw2, heap_alloc_old _ _ _ (by simp; omega), heap_alloc_old _ _ _ (by simp)]; exact heap_alloc_at _ _ _ rfl)
  have HB2 : Hid (w2.heap[b2]? = some (.cells #[.slice oh m ch, .slice (some ⟨g, 0, none⟩) n cg, .slice on 0 cn] TMd (0, 0))) := Lib.hid (by rw [hw2, hb2, heap_alloc_old _ _ _ (by simp)]; exact heap_alloc_at _ _ _ (by simp))
  have HB3 : Hid (w2.heap[b3]? = some (.cells #[.int .i64 0, .int .i64 0] TFa (0, 0))) := Lib.hid (by rw [hw2, hb3, hb2]; exact heap_alloc_at _ _ _ (by simp))
  go_enter Tryz.func89, Tryz.ntmps89
  go_upto_region 1 with fail
  rw [← hw2, ← hb2, ← hb3]
  have HLW : Hid (w.heap.size ≤ b3) := Lib.hid (by omega)
  clear hw2 hb2 hb3
  generalize hg1 : w.heap.size = b1 at *
  have HG1 := Lib.hid hg1
  clear hg1
  have x0 := cell_of_heap (o := 0) HB1.out rfl
  have x1 := cell_of_heap (o := 1) HB1.out rfl
  have x2 := cell_of_heap (o := 2) HB1.out rfl
  have x3 := cell_of_heap (o := 3) HB1.out rfl
  have xl := lt_of_heap HB1.out
  have CC := Lib.hid (CC.out w2 K2.out)
  go_wp2_with fail
  refine CC.out.mono ?_
  rintro e w3 ⟨rfl, hk3⟩
  have K4 : Hid (Keep NoS w2 (w3.alloc (.cells #[.int .i64 0, .int .i64 0] TFa))) := Lib.hid (Keep.both hk3 ((Keep.refl _ _).alloc _))
  have HX : Hid (w3.heap[w2.heap.size]? = w3.heap[w2.heap.size]?) := Lib.hid rfl
  have yl := lt_of_heap HB2.out
  have y0 := (K4.out.cell (i := 0) yl).trans (cell_of_heap (o := 0) HB2.out rfl)
  have y1 := (K4.out.cell (i := 1) yl).trans (cell_of_heap (o := 1) HB2.out rfl)
  have y2 := (K4.out.cell (i := 2) yl).trans (cell_of_heap (o := 2) HB2.out rfl)
  have z0 := (K4.out.cell (i := 0) xl).trans x0
  have z1 := (K4.out.cell (i := 1) xl).trans x1
  have z2 := (K4.out.cell (i := 2) xl).trans x2
  have zl := Nat.lt_of_lt_of_le xl K4.out.size
  have yl4 := Nat.lt_of_lt_of_le yl K4.out.size
  have CI := Lib.hid (CI.out _ (K2.out.both K4.out))
  clear hk3 CC x0 x1 x2 x3 HX
  go_wp2_with fail
  refine CI.out.mono ?_
  rintro e w5 ⟨rfl, hk5⟩
  have u2 := (hk5.cell (i := 2) yl4).trans y2
  have ul := Nat.lt_of_lt_of_le yl4 hk5.size
  have K5 := Lib.hid (K4.out.both hk5)
  clear hk5 CI y0 y1 y2 z0 z1 z2 zl yl4
  go_wp2_with fail
  refine (CF _).out.mono ?_
  rintro e w6 ⟨rfl, hk6⟩
  have KE := Lib.hid (K5.out.both hk6)
  have HB3e := Lib.hid ((KE.out.block b3 (lt_of_heap HB3.out) fun _ h => h).trans HB3.out)
  have t0 := cell_of_heap (o := 0) HB3e.out rfl
  have t1 := cell_of_heap (o := 1) HB3e.out rfl
  have f0 := Blk.free (A := _) ⟨_, HB3e.out⟩ 0
  have f1 := Blk.free (A := _) ⟨_, HB3e.out⟩ 1
  have tl := lt_of_heap HB3e.out
  clear hk6 CF u2 ul
  go_wp2
  refine bodyPost_ret (by simp [results, Tryz.results89, go_sem, t0, t1, tl]; rfl) rfl ?_
  exact ⟨rfl, keep_at (keep_at (K2.out.both KE.out) _ (by rw [HG1.out]; exact HLW.out)) _ (by rw [HG1.out]; exact HLW.out)⟩
end Go.Proofs.YtnndmdfjdodiiaaGreat
