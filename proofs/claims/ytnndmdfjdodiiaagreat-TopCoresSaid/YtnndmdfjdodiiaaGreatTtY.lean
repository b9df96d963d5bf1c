/- Package close: Why and Do. -/
import Derived.Test.YtnndmdfjdodiiaaGreatTtX
namespace Go.Proofs.YtnndmdfjdodiiaaGreat
open Go.ChangeShapes Go.WideShapes Go.RowKit Go.Maps
set_option linter.unusedVariables false
set_option linter.unusedSimpArgs false

set_option maxRecDepth 100000 in
set_option maxHeartbeats 16000000 in
theorem cwhy_any (w : World) (ot op : Option Addr) (ct cp : Nat) (terms : List Cl.Tm) (same : List (Int × Int)) (a b : Nat) (ht : IsTerms w (.slice ot terms.length ct) terms) (hp : IsPairs w (.slice op same.length cp) same) (hv : TmV terms) (hpk : PrOK terms.length same) (hpl : same.length ≤ 120) (ha : a < terms.length) (hb : b < terms.length) (hr : Cl.relB terms same a b = true) :
    Calls Tryz.prog 82 #[.slice ot terms.length ct, .slice op same.length cp, .int .i64 (a : Int), .int .i64 (b : Int)] w fun e w' => ∃ v, e = .returned (.tuple #[v, .agg #[.int .i64 0, .int .i64 0]]) ∧ OwnI w' w.heap.size v (natI (Cl.whyF terms same a b same.length (List.range same.length))) ∧ Keep NoS w w' := by
  have CW := Lib.hid (fun w' (k : Keep NoS w w') => why_any w' ot op ct cp terms same a b (ht.keep k) (hp.keep k) hv.ok hpk (by omega) ha hb)
  have CR := Lib.hid (fun w' (k : Keep NoS w w') => related_any w' ot op ct cp terms same a b (ht.keep k) (hp.keep k) hv.ok hpk (by omega) ha hb)
  rw [hr] at CR
  have CC := Lib.hid (fun w' (k : Keep NoS w w') (bl : Nat) (hbl : bl < w'.heap.size) (hc : w'.cell? ⟨bl, 0, none⟩ = some (.slice op same.length cp)) => ccheck_any w' ot ct terms (ht.keep k) hv bl 1 1 hbl (by omega) (fun _ => .slice op same.length cp) (fun _ => same) fun j hj => by
    obtain rfl : j = 0 := by omega
    exact ⟨hc, hp.keep k, hpl, hpk⟩)
  have C1 := fun w' => Lib.hid (term_any w' ot terms.length ct a ha)
  have C2 := fun w' => Lib.hid (term_any w' ot terms.length ct b hb)
  generalize natI (Cl.whyF terms same a b same.length (List.range same.length)) = wl at *
  generalize terms.length = n at *
  generalize same.length = m at *
  clear ht hp hv hpk hr ha hb
  have KA : Hid (Keep NoS w (w.alloc (.cells #[.int .i64 0, .int .i64 0] TFa))) := Lib.hid ((Keep.refl _ _).alloc _)
  have HB2 : Hid ((w.alloc (.cells #[.int .i64 0, .int .i64 0] TFa)).heap[w.heap.size]? = some (.cells #[.int .i64 0, .int .i64 0] TFa (0, 0))) := Lib.hid (heap_alloc_at _ _ _ rfl)
  obtain ⟨w2, hw2⟩ : ∃ w2 : World, w2 = w.alloc (.cells #[.int .i64 0, .int .i64 0] TFa) := ⟨_, rfl⟩
  rw [← hw2] at KA HB2
  go_enter Tryz.func82, Tryz.ntmps82
  go_upto_region 1 with fail
  rw [← hw2]
  clear hw2
  obtain ⟨b2, hb2⟩ : ∃ b2, b2 = w.heap.size := ⟨_, rfl⟩
  rw [← hb2] at HB2 ⊢
  have HL := Lib.hid (Nat.le_of_eq hb2.symm)
  clear hb2
  have k3 : Keep NoS w2 (w2.alloc (.cells #[.slice op m cp] 32)) := (Keep.refl _ _).alloc _
  have hB3 : (w2.alloc (.cells #[.slice op m cp] 32)).heap[w2.heap.size]? = some (.cells #[.slice op m cp] 32 (0, 0)) := heap_alloc_at _ _ _ rfl
  have CC := Lib.hid (CC.out _ (KA.out.both k3) w2.heap.size (lt_of_heap hB3) (cell_of_heap (o := 0) hB3 rfl))
  have K3 := Lib.hid k3
  clear k3 hB3
  go_wp2_with fail
  refine CC.out.mono ?_
  rintro e w4 ⟨rfl, hk4⟩
  have K4 := Lib.hid (K3.out.both hk4)
  clear hk4 CC
  have K5 : Hid (Keep NoS w2 (w4.alloc (.cells #[.int .i64 0, .int .i64 0] TFa))) := Lib.hid (K4.out.both ((Keep.refl _ _).alloc _))
  go_wp2_with fail
  refine (C1 _).out.mono ?_
  rintro e w5 ⟨rfl, rfl⟩
  go_wp2_with fail
  refine (C2 _).out.mono ?_
  rintro e w5 ⟨rfl, rfl⟩
  have CR := Lib.hid (CR.out _ (KA.out.both K5.out))
  go_wp2_with fail
  refine CR.out.mono ?_
  rintro e w6 ⟨rfl, hk6⟩
  have K6 := Lib.hid (K5.out.both hk6)
  clear hk6 CR K5
  have CW := Lib.hid (CW.out _ (KA.out.both K6.out))
  go_wp2_with fail
  refine CW.out.mono ?_
  rintro e w7 ⟨v, rfl, ho, hk7⟩
  have HO := Lib.hid ho
  have K7 := Lib.hid (K6.out.both hk7)
  have HB7 := Lib.hid ((K7.out.block b2 (lt_of_heap HB2.out) fun _ h => h).trans HB2.out)
  obtain ⟨ov, cv, rfl⟩ := ho.len
  have u0 := cell_of_heap (o := 0) HB7.out rfl
  have u1 := cell_of_heap (o := 1) HB7.out rfl
  have f0 := Blk.free (A := _) ⟨_, HB7.out⟩ 0
  have f1 := Blk.free (A := _) ⟨_, HB7.out⟩ 1
  have ul := lt_of_heap HB7.out
  have hne : (Value.slice ov wl.length cv).ownBlock ≠ some b2 := ho.neT HB7.out (by decide)
  clear ho hk7 CW
  go_wp2
  refine bodyPost_ret (by simp [results, Tryz.results82, go_sem, u0, u1, ul]; rfl) rfl ?_
  exact ⟨_, rfl, World.ownsRow_mono (HO.out.same fun k hk => (heap_setCell_other _ ⟨b2, 1, none⟩ _ k fun e => hne (hk.trans (congrArg some e))).trans (heap_setCell_other _ ⟨b2, 0, none⟩ _ k fun e => hne (hk.trans (congrArg some e)))) (KA.out.both K6.out).size, keep_at (keep_at (KA.out.both K7.out) _ HL.out) _ HL.out⟩
end Go.Proofs.YtnndmdfjdodiiaaGreat
