/- Package cut: the search without rows. -/
import Derived.Test.YtnndmdfjdodiiaaGreatTtA
import Derived.Test.YtnndmdfjdodiiaaGreatTaBB
namespace Go.Proofs.YtnndmdfjdodiiaaGreat
open Go.ChangeShapes Go.WideShapes Go.RowKit Go.Maps
set_option linter.unusedVariables false
set_option linter.unusedSimpArgs false

abbrev TSc : TypeId := 172
abbrev TTb : TypeId := 244
theorem clone0_any (w : World) : Calls Tryz.prog 146 #[.slice none 0 0] w fun e w' => e = .returned (.slice none 0 0) ∧ Keep NoS w w' := by
  have e1 : ∀ w, Sem.run Tryz.prog (binOp BinOp.eql 156 (.slice none 0 0) (.slice none 0 0)) w = .ok (.bool true) w := fun w => by kernel_rfl
  go_enter Tryz.func146, Tryz.ntmps146
  go_wp2
  go_ret
  exact ⟨rfl, by (repeat' (with_reducible first | assumption | exact HK.out | exact keR | refine keA ?_ | refine keS ?_ fun h => absurd h (by omega) | refine keN ?_ | refine keD ?_))⟩
/-- A tableau without lines. -/
def tb0 (g gm : Nat) : Array Value := #[.int .i64 0, .slice none 0 0, .slice none 0 0, .map (some gm), .slice none 0 0, .slice (some ⟨g, 0, none⟩) 0 0, .slice none 0 0]
set_option maxRecDepth 100000 in
theorem tnew0_any (w : World) : Calls Tryz.prog 147 #[.slice none 0 0, .int .i64 0] w fun e w' => ∃ b g gm, e = .returned (.pointer (some ⟨b, 0, none⟩)) ∧ w'.heap[b]? = some (.cells (tb0 g gm) TTb (0, 0)) ∧ Keep NoS w w' := by
  have hmk : (Instr.makeMap 240 none).run Tryz.prog w = .ok (.map (some w.heap.size)) (w.alloc (.map #[] 0)) := rfl
  have hms : ∀ w : World, (Instr.makeSlice 241 (.int .i64 0) (.int .i64 0)).run Tryz.prog w = .ok (.slice (some ⟨w.heap.size, 0, none⟩) 0 0) (w.alloc (.cells #[] 248)) := fun w => by kernel_rfl
  go_enter Tryz.func147, Tryz.ntmps147
  go_wp2
  go_loopw [23] (fun s wr => s = .int .i64 0 ∧ wr = (((w.alloc (.map #[] 0)).alloc (.cells #[] 248)).alloc (.cells (tb0 (w.heap.size + 1) w.heap.size) TTb))) (fun _ _ => 0)
  case atStart => exact ⟨rfl, rfl⟩
  case round =>
  obtain ⟨rfl, hw⟩ := hrel
  subst hw
  go_wp2
  refine bodyPost_ret (by simp [results, Tryz.results147, go_sem]; rfl) rfl ?_
  refine ⟨_, _, _, rfl, heap_alloc_at _ _ _ (by simp), by (repeat' (with_reducible first | assumption | exact HK.out | exact keR | refine keA ?_ | refine keS ?_ fun h => absurd h (by omega) | refine keN ?_ | refine keD ?_))⟩
set_option maxRecDepth 100000 in
theorem broken0_any (w : World) (b g gm : Nat) (h : w.heap[b]? = some (.cells (tb0 g gm) TTb (0, 0))) : Calls Tryz.prog 178 #[.pointer (some ⟨b, 0, none⟩)] w fun e w' => e = .returned (.tuple #[.int .i64 (-1), .int .i64 0]) ∧ Keep NoS w w' := by
  have x2 : w.cell? ⟨b, 2, none⟩ = some (.slice none 0 0) := cell_of_heap (o := 2) h rfl
  have xl := lt_of_heap h
  clear h
  go_enter Tryz.func178, Tryz.ntmps178
  go_wp2
  go_loopw [17, 4, 5] (fun s t u wr => s = .int .i64 0 ∧ t = .int .i64 (-1) ∧ u = .int .i64 0 ∧ wr = w) (fun _ _ _ _ => 0)
  case atStart => exact ⟨rfl, rfl, rfl, rfl⟩
  case round =>
  obtain ⟨rfl, rfl, rfl, hw⟩ := hrel
  have hw : w = wr := hw.symm
  subst hw
  go_wp2
  refine bodyPost_ret (by simp [results, Tryz.results178, go_sem]; rfl) rfl ?_
  exact ⟨rfl, by (repeat' (with_reducible first | assumption | exact HK.out | exact keR | refine keA ?_ | refine keS ?_ fun h => absurd h (by omega) | refine keN ?_ | refine keD ?_))⟩
set_option maxRecDepth 100000 in
theorem feas0_any (w : World) (b g gm : Nat) (h : w.heap[b]? = some (.cells (tb0 g gm) TTb (0, 0))) : Calls Tryz.prog 148 #[.pointer (some ⟨b, 0, none⟩), .int .i64 1048576] w fun e w' => e = .returned (.tuple #[.slice none 0 0, .bool true]) ∧ Keep NoS w w' := by
  have CB := fun w' (e : w' = w) => Lib.hid (broken0_any w' b g gm (e ▸ h))
  clear h
  go_enter Tryz.func148, Tryz.ntmps148
  go_wp2
  go_loopg [] 0 (fun gk wr => wr = w)
  case atStart => rfl
  case round =>
  have CB1 := CB wr hrel
  clear CB
  subst hrel
  go_wp2_with fail
  refine CB1.out.mono ?_
  rintro e w1 ⟨rfl, hk⟩
  have K := Lib.hid hk
  clear hk CB1
  go_wp2
  refine bodyPost_ret (by simp [results, Tryz.results148, go_sem]; rfl) rfl ?_
  exact ⟨rfl, K.out⟩
theorem keepS4 {w0 w : World} {b : Nat} (h : Keep NoS w0 w) (hb : w0.heap.size ≤ b) (u v x y : Value) : Keep NoS w0 ((((w.setCell ⟨b, 0, none⟩ u).setCell ⟨b, 1, none⟩ v).setCell ⟨b, 2, none⟩ x).setCell ⟨b, 3, none⟩ y) :=
  (((h.setCell _ fun hh => absurd hh (by omega)).setCell _ fun hh => absurd hh (by omega)).setCell _ fun hh => absurd hh (by omega)).setCell _ fun hh => absurd hh (by omega)
theorem longAgg (z : Int) : ∃ b S, longV z = .agg #[.bool b, .string S] := ⟨_, _, rfl⟩
theorem ofOne : ∃ b S, ∀ w, Calls Tryz.prog 203 #[.int .i64 1] w fun e w' => e = .returned (.agg #[.bool b, .string S]) ∧ Keep NoS w w' := by
  obtain ⟨b, S, h⟩ := longAgg 1
  refine ⟨b, S, fun w => ?_⟩
  have := longOf_any w 1 (by omega) (by omega)
  rw [h] at this
  exact this
set_option maxRecDepth 100000 in
theorem intOne : ∃ (c : Bool) (S : ByteArray), ∀ w, Calls Tryz.prog 161 #[.int .i64 1] w fun e w' => e = .returned (.agg #[.bool c, .string S, .bool c, .string S]) ∧ Keep NoS w w' := by
  obtain ⟨b, S, C⟩ := ofOne
  refine ⟨b, S, fun w => ?_⟩
  have C1 := fun w => Lib.hid (C w)
  clear C
  go_enter Tryz.func161, Tryz.ntmps161
  go_wp2_with fail
  refine (C1 _).out.mono ?_
  rintro e w1 ⟨rfl, hk1⟩
  have B2 : Blk w1 w.heap.size #[.bool false, .string ⟨#[]⟩, .bool false, .string ⟨#[]⟩] := Blk.keep (by (repeat (first | (with_reducible assumption) | (refine blk_at _ _ ?_; simp; done) | (refine Blk.old ?_ _)))) hk1
  have K1 : Hid (Keep NoS w w1) := Lib.hid (Keep.both (by (repeat' (with_reducible first | assumption | exact HK.out | exact keR | refine keA ?_ | refine keS ?_ fun h => absurd h (by omega) | refine keN ?_ | refine keD ?_))) hk1)
  clear hk1
  go_wp2_with fail
  refine (C1 _).out.mono ?_
  rintro e w2 ⟨rfl, hk2⟩
  have B2 := B2.keep hk2
  have K2 := Lib.hid (K1.out.both hk2)
  clear hk2 C1
  have r0 := B2.cell 0
  have r1 := B2.cell 1
  have r2 := B2.cell 2
  have r3 := B2.cell 3
  have f0 := B2.free 0
  have f1 := B2.free 1
  have f2 := B2.free 2
  have f3 := B2.free 3
  have rl := B2.lt
  simp at r0 r1 r2 r3
  go_wp2
  refine bodyPost_ret (by simp [results, Tryz.results161, go_sem, r0, r1, r2, r3, rl]; rfl) rfl ?_
  exact ⟨rfl, keepS4 K2.out (by omega) _ _ _ _⟩
set_option maxRecDepth 100000 in
theorem small0_any (w : World) (b g gm : Nat) (c : Bool) (S : ByteArray) (h : w.heap[b]? = some (.cells (tb0 g gm) TTb (0, 0))) (C : ∀ w, Calls Tryz.prog 161 #[.int .i64 1] w fun e w' => e = .returned (.agg #[.bool c, .string S, .bool c, .string S]) ∧ Keep NoS w w') : Calls Tryz.prog 191 #[.pointer (some ⟨b, 0, none⟩)] w fun e w' => e = .returned (.agg #[.bool c, .string S, .bool c, .string S]) ∧ Keep NoS w w' := by
  have C1 := fun w => Lib.hid (C w)
  have x5 : w.cell? ⟨b, 5, none⟩ = some (.slice (some ⟨g, 0, none⟩) 0 0) := cell_of_heap (o := 5) h rfl
  have xl := lt_of_heap h
  clear C h
  go_enter Tryz.func191, Tryz.ntmps191
  go_wp2_with fail
  refine (C1 _).out.mono ?_
  rintro e w1 ⟨rfl, hk1⟩
  have B2 : Blk w1 w.heap.size #[.bool false, .string ⟨#[]⟩, .bool false, .string ⟨#[]⟩] := Blk.keep (by (repeat (first | (with_reducible assumption) | (refine blk_at _ _ ?_; simp; done) | (refine Blk.old ?_ _)))) hk1
  have K1 : Hid (Keep NoS w w1) := Lib.hid (Keep.both (by (repeat' (with_reducible first | assumption | exact HK.out | exact keR | refine keA ?_ | refine keS ?_ fun h => absurd h (by omega) | refine keN ?_ | refine keD ?_))) hk1)
  have x5 := (K1.out.cell xl).trans x5
  clear hk1 C1
  have r0 := B2.cell 0
  have r1 := B2.cell 1
  have r2 := B2.cell 2
  have r3 := B2.cell 3
  have f0 := B2.free 0
  have f1 := B2.free 1
  have f2 := B2.free 2
  have f3 := B2.free 3
  have rl := B2.lt
  simp at r0 r1 r2 r3
  have xl1 : b < w1.heap.size := by omega
  go_wp2
  go_loopw [15] (fun s wr => s = .int .i64 0 ∧ wr = w1.alloc (.cells #[.bool c, .string S, .bool c, .string S] 215)) (fun _ _ => 0)
  case atStart => exact ⟨rfl, rfl⟩
  case round =>
  obtain ⟨rfl, hw⟩ := hrel
  subst hw
  go_wp2
  refine bodyPost_ret (by simp [results, Tryz.results191, go_sem, r0, r1, r2, r3, rl]; rfl) rfl ?_
  exact ⟨rfl, (keepS4 K1.out (Nat.le_refl _) _ _ _ _).alloc _⟩
set_option maxRecDepth 100000 in
theorem point0_any (w : World) (b g gm : Nat) (h : w.heap[b]? = some (.cells (tb0 g gm) TTb (0, 0))) : Calls Tryz.prog 150 #[.pointer (some ⟨b, 0, none⟩)] w fun e w' => e = .returned (.slice none 0 0) ∧ Keep NoS w w' := by
  obtain ⟨c, S, C⟩ := intOne
  have C1 := Lib.hid (small0_any (w.alloc (.cells #[.bool false, .string ⟨#[]⟩, .bool false, .string ⟨#[]⟩] 215)) b g gm c S ((heap_alloc_old _ _ _ (lt_of_heap h)).trans h) C)
  have C2 := Lib.hid (small0_any w b g gm c S h C)
  have x5 : w.cell? ⟨b, 5, none⟩ = some (.slice (some ⟨g, 0, none⟩) 0 0) := cell_of_heap (o := 5) h rfl
  have x0 : w.cell? ⟨b, 0, none⟩ = some (.int .i64 0) := cell_of_heap (o := 0) h rfl
  have xl := lt_of_heap h
  clear C h
  go_enter Tryz.func150, Tryz.ntmps150
  go_wp2_with fail
  refine C2.out.mono ?_
  rintro e w1 ⟨rfl, hk1⟩
  have x5 := (hk1.cell xl).trans x5
  have x0 := (hk1.cell xl).trans x0
  have xl1 : b < w1.heap.size := Nat.lt_of_lt_of_le xl hk1.size
  have K1 := Lib.hid hk1
  clear hk1 C1 C2
  go_wp2
  go_quiet (fail)
  go_wp2
  go_loopw [19, 4] (fun s t wr => s = .int .i64 0 ∧ t = .slice none 0 0 ∧ ∃ z, wr = (w1.alloc (.cells #[.bool c, .string S, .bool c, .string S] 215)).drewN z) (fun _ _ _ => 0)
  case atStart => exact ⟨rfl, rfl, _, rfl⟩
  case round =>
  obtain ⟨rfl, rfl, z, hw⟩ := hrel
  subst hw
  go_wp2
  refine bodyPost_ret (by simp [results, Tryz.results150, go_sem]; rfl) rfl ?_
  exact ⟨rfl, (K1.out.alloc _).drewN z⟩
set_option maxRecDepth 100000 in
theorem fracs0_any (w : World) : Calls Tryz.prog 152 #[.slice none 0 0] w fun e w' => e = .returned (.tuple #[.slice none 0 0, .bool true]) ∧ Keep NoS w w' := by
  go_enter Tryz.func152, Tryz.ntmps152
  go_wp2
  go_loopw [12, 4, 5] (fun s t u wr => s = .int .i64 0 ∧ t = .slice none 0 0 ∧ u = .bool true ∧ wr = w) (fun _ _ _ _ => 0)
  case atStart => exact ⟨rfl, rfl, rfl, rfl⟩
  case round =>
  obtain ⟨rfl, rfl, rfl, hw⟩ := hrel
  have hw : w = wr := hw.symm
  subst hw
  go_wp2
  refine bodyPost_ret (by simp [results, Tryz.results152, go_sem]; rfl) rfl ?_
  exact ⟨rfl, by (repeat' (with_reducible first | assumption | exact HK.out | exact keR | refine keA ?_ | refine keS ?_ fun h => absurd h (by omega) | refine keN ?_ | refine keD ?_))⟩
/-- The search on no rows: its fuel is n. -/
def cs0 (n : Int) : Array Value := #[.slice none 0 0, .slice none 0 0, .int .i64 n, .slice none 0 0, .slice none 0 0, .slice none 0 0, .bool false]
set_option maxRecDepth 100000 in
theorem copen0_any (w : World) (b : Nat) (n : Int) (h : Blk w b (cs0 n)) : Calls Tryz.prog 151 #[.pointer (some ⟨b, 0, none⟩), .slice none 0 0] w fun e w' => e = .returned (.int .i64 (-1)) ∧ Keep NoS w w' := by
  have x1 : w.cell? ⟨b, 1, none⟩ = some (.slice none 0 0) := h.cell 1
  have xl := h.lt
  clear h
  go_enter Tryz.func151, Tryz.ntmps151
  go_wp2
  go_loopw [12] (fun s wr => s = .int .i64 0 ∧ wr = w) (fun _ _ => 0)
  case atStart => exact ⟨rfl, rfl⟩
  case round =>
  obtain ⟨rfl, hw⟩ := hrel
  have hw : w = wr := hw.symm
  subst hw
  go_wp2
  refine bodyPost_ret (by simp [results, Tryz.results151, go_sem]; rfl) rfl ?_
  exact ⟨rfl, by (repeat' (with_reducible first | assumption | exact HK.out | exact keR | refine keA ?_ | refine keS ?_ fun h => absurd h (by omega) | refine keN ?_ | refine keD ?_))⟩
theorem cs0_cells {w : World} {b : Nat} {n : Int} (h : Blk w b (cs0 n)) : w.cell? ⟨b, 0, none⟩ = some (.slice none 0 0) ∧ w.cell? ⟨b, 1, none⟩ = some (.slice none 0 0) ∧ w.cell? ⟨b, 2, none⟩ = some (.int .i64 n) ∧ w.cell? ⟨b, 4, none⟩ = some (.slice none 0 0) ∧ w.cell? ⟨b, 5, none⟩ = some (.slice none 0 0) ∧ w.cell? ⟨b, 6, none⟩ = some (.bool false) ∧ w.frozen? ⟨b, 2, none⟩ = false ∧ w.frozen? ⟨b, 5, none⟩ = false ∧ w.frozen? ⟨b, 6, none⟩ = false ∧ b < w.heap.size :=
  ⟨h.cell 0, h.cell 1, h.cell 2, h.cell 4, h.cell 5, h.cell 6, h.free 2, h.free 5, h.free 6, h.lt⟩
set_option maxRecDepth 100000 in
set_option maxHeartbeats 4000000 in
theorem at0_any (w0 w : World) (b gm : Nat) (hK : Keep NoS w0 w) (hb : w0.heap.size ≤ b) (h : Blk w b (cs0 2000)) : Calls Tryz.prog 120 #[.pointer (some ⟨b, 0, none⟩), .map (some gm)] w fun e w' => e = .returned (.tuple #[.int .i64 1, .slice none 0 0]) ∧ Blk w' b (cs0 1999) ∧ Keep NoS w0 w' := by
  have e1 : ∀ w, Sem.run Tryz.prog (binOp BinOp.neq 202 (.slice none 0 0) (.slice none 0 0)) w = .ok (.bool false) w := fun w => by kernel_rfl
  have CC := fun w => Lib.hid (clone0_any w)
  have CN := fun w => Lib.hid (tnew0_any w)
  have CF := fun w => Lib.hid (fracs0_any w)
  have H := Lib.hid h
  have K := Lib.hid hK
  have B := Lib.hid hb
  obtain ⟨x0, x1, x2, x4, x5, x6, f2, f5, f6, xl⟩ := cs0_cells h
  clear h hK hb
  go_enter Tryz.func120, Tryz.ntmps120
  go_wp2_with fail
  refine (CC _).out.mono ?_
  rintro e w1 ⟨rfl, hk1⟩
  have H1 : Hid (Blk w1 b (cs0 1999)) := Lib.hid ((H.out.set 2 (.int .i64 1999)).keep hk1)
  have K1 : Hid (Keep NoS w0 w1) := Lib.hid (Keep.both (K.out.setCell _ fun hh => absurd hh (by have := B.out; omega)) hk1)
  clear hk1 H K x0 x1 x2 x4 x5 x6 f2 f5 f6 xl CC
  obtain ⟨x0, x1, x2, x4, x5, x6, f2, f5, f6, xl⟩ := cs0_cells H1.out
  go_wp2
  go_loopw [41, 7] (fun s t wr => s = .int .i64 0 ∧ t = .slice none 0 0 ∧ wr = w1) (fun _ _ _ => 0)
  case atStart => exact ⟨rfl, rfl, rfl⟩
  case round =>
  obtain ⟨rfl, rfl, hw⟩ := hrel
  have hw : w1 = wr := hw.symm
  subst hw
  go_wp2
  go_loopw [55, 6, 7] (fun s t u wr => s = .int .i64 0 ∧ t = .slice none 0 0 ∧ u = .slice none 0 0 ∧ wr = w1) (fun _ _ _ _ => 0)
  case atStart => exact ⟨rfl, rfl, rfl, rfl⟩
  case round =>
  obtain ⟨rfl, rfl, rfl, hw⟩ := hrel
  have hw : w1 = wr := hw.symm
  subst hw
  go_wp2_with fail
  refine (CN _).out.mono ?_
  rintro e w2 ⟨bT, g, gmT, rfl, hT, hk2⟩
  have H2 := Lib.hid (H1.out.keep hk2)
  have K2 := Lib.hid (K1.out.both hk2)
  have HT := Lib.hid hT
  clear hk2 H1 K1 x0 x1 x2 x4 x5 x6 f2 f5 f6 xl CN hT
  have CF2 := Lib.hid (feas0_any w2 bT g gmT HT.out)
  go_wp2_with fail
  refine CF2.out.mono ?_
  rintro e w3 ⟨rfl, hk3⟩
  have H3 := Lib.hid (H2.out.keep hk3)
  have K3 := Lib.hid (K2.out.both hk3)
  have HT3 := Lib.hid ((hk3.block bT (lt_of_heap HT.out) fun _ h => h).trans HT.out)
  clear hk3 H2 K2 HT CF2
  have CP := Lib.hid (point0_any w3 bT g gmT HT3.out)
  go_wp2_with fail
  refine CP.out.mono ?_
  rintro e w4 ⟨rfl, hk4⟩
  have H4 := Lib.hid (H3.out.keep hk4)
  have K4 := Lib.hid (K3.out.both hk4)
  clear hk4 H3 K3 CP HT3
  have CO := Lib.hid (copen0_any w4 b 1999 H4.out)
  go_wp2_with fail
  refine CO.out.mono ?_
  rintro e w5 ⟨rfl, hk5⟩
  have H5 := Lib.hid (H4.out.keep hk5)
  have K5 := Lib.hid (K4.out.both hk5)
  clear hk5 H4 K4 CO
  go_wp2_with fail
  refine (CF _).out.mono ?_
  rintro e w6 ⟨rfl, hk6⟩
  have H6 := Lib.hid (H5.out.keep hk6)
  have K6 := Lib.hid (K5.out.both hk6)
  clear hk6 H5 K5 CF
  obtain ⟨x0, x1, x2, x4, x5, x6, f2, f5, f6, xl⟩ := cs0_cells H6.out
  go_wp2
  refine bodyPost_ret (by simp [results, Tryz.results120, go_sem]; rfl) rfl ?_
  exact ⟨rfl, (H6.out.set 5 _).set 6 _, (K6.out.setCell _ fun hh => absurd hh (by have := B.out; omega)).setCell _ fun hh => absurd hh (by have := B.out; omega)⟩
set_option maxRecDepth 100000 in
set_option maxHeartbeats 4000000 in
theorem search0_any (w : World) : Calls Tryz.prog 87 #[.slice none 0 0, .slice none 0 0, .int .i64 2000] w fun e w' => e = .returned (.tuple #[.int .i64 1, .slice none 0 0, .slice none 0 0]) ∧ Keep NoS w w' := by
  have hmk : ∀ w : World, (Instr.makeMap 175 none).run Tryz.prog w = .ok (.map (some w.heap.size)) (w.alloc (.map #[] 0)) := fun w => rfl
  have CA := Lib.hid (at0_any w ((w.alloc (.cells (cs0 2000) TSc)).alloc (.map #[] 0)) w.heap.size (w.heap.size + 1) (by (repeat' (with_reducible first | assumption | exact HK.out | exact keR | refine keA ?_ | refine keS ?_ fun h => absurd h (by omega) | refine keN ?_ | refine keD ?_))) (Nat.le_refl _) (Blk.old (blk_at _ _ rfl) _))
  go_enter Tryz.func87, Tryz.ntmps87
  go_wp2_with fail
  refine CA.out.mono ?_
  rintro e w1 ⟨rfl, h1, hk1⟩
  obtain ⟨x0, x1, x2, x4, x5, x6, f2, f5, f6, xl⟩ := cs0_cells h1
  have K1 := Lib.hid hk1
  clear hk1 CA h1
  go_wp2
  go_quiet (fail)
  go_wp2
  refine bodyPost_ret (by simp [results, Tryz.results87, go_sem]; rfl) rfl ?_
  exact ⟨rfl, K1.out.drewN _⟩
end Go.Proofs.YtnndmdfjdodiiaaGreat
