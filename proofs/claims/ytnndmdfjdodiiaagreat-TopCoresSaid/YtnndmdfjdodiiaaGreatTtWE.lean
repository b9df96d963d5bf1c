/- Package few: sets of assignments, as words. Package few: sets. Package few: open. Package few: check; the closure of Core; what Core computes. Package few: Core. -/
import Derived.Test.YtnndmdfjdodiiaaGreatTtWB
import Derived.Laws.Bits64b
import Derived.Test.YtnndmdfjdodiiaaGreatTtJ
namespace Go.Proofs.YtnndmdfjdodiiaaGreat
open Go.ChangeShapes Go.WideShapes Go.RowKit Go.Maps
set_option linter.unusedVariables false
set_option linter.unusedSimpArgs false

/-- The word of those below n of which p holds. -/
def maskN (p : Nat → Bool) : Nat → Nat
  | 0 => 0
  | n + 1 => if p n then maskN p n ||| 2 ^ n else maskN p n
theorem maskN_bit (p : Nat → Bool) : ∀ n i : Nat, (maskN p n).testBit i = (decide (i < n) && p i)
  | 0, i => by simp [maskN]
  | n + 1, i => by
    unfold maskN
    by_cases hp : p n = true
    · rw [if_pos hp, Nat.testBit_or, maskN_bit p n i, Nat.testBit_two_pow]
      by_cases h : n = i
      · subst h; simp [hp]
      · simp only [h, decide_false, Bool.or_false]
        congr 1
        rw [decide_eq_decide]
        omega
    · rw [if_neg hp, maskN_bit p n i]
      by_cases h : i = n
      · subst h; simp [hp]
      · congr 1
        rw [decide_eq_decide]
        omega
theorem maskN_lt (p : Nat → Bool) (n : Nat) : maskN p n < 2 ^ n := Nat.lt_pow_two_of_testBit _ fun i hi => by
  rw [maskN_bit, decide_eq_false (by omega), Bool.false_and]
abbrev TU : TypeId := 127
abbrev TUs : TypeId := 125
def uSl (b : Nat) : Value := .slice (some ⟨b, 0, none⟩) 1 1
/-- Words, each in a block of its own. -/
structure SetL (w : World) (g n : Nat) (bs : List Nat) (vs : List Nat) : Prop where
  h : w.heap[g]? = some (.cells (bs.map uSl ++ List.replicate (n - bs.length) (Value.slice none 0 0)).toArray TUs (0, 0))
  len : vs.length = bs.length
  le : bs.length ≤ n
  nd : bs.Nodup
  ng : g ∉ bs
  at' : ∀ (i b v : Nat), bs[i]? = some b → vs[i]? = some v → w.heap[b]? = some (.cells #[.int .u64 (v : Int)] TU (0, 0))
theorem SetL.keep {w w' : World} {g n : Nat} {bs vs : List Nat} (h : SetL w g n bs vs) (k : Keep NoS w w') : SetL w' g n bs vs :=
  ⟨(k.block g (lt_of_heap h.h) fun _ h => h).trans h.h, h.len, h.le, h.nd, h.ng, fun i b v hb hv => (k.block b (lt_of_heap (h.at' i b v hb hv)) fun _ h => h).trans (h.at' i b v hb hv)⟩
/-- One more word: its block is new, and stands in the list. -/
theorem SetL.push {w : World} {g n : Nat} {bs vs : List Nat} (h : SetL w g n bs vs) (hn : bs.length < n) : SetL ((w.alloc (.cells #[.int .u64 0] TU)).setCell ⟨g, bs.length, none⟩ (uSl w.heap.size)) g n (bs ++ [w.heap.size]) (vs ++ [0]) := by
  have hg := lt_of_heap h.h
  have hlt : ∀ b ∈ bs, b < w.heap.size := fun b hb => by
    obtain ⟨i, hi⟩ := List.mem_iff_getElem?.1 hb
    have hil := (List.getElem?_eq_some_iff.1 hi).1
    exact lt_of_heap (h.at' i b _ hi (List.getElem?_eq_getElem (by rw [h.len]; exact hil)))
  have k1 : Keep NoS w (w.alloc (.cells #[.int .u64 0] TU)) := (Keep.refl _ _).alloc _
  have hg1 := (k1.block g hg fun _ h => h).trans h.h
  refine ⟨?_, by simp [h.len], by simp; omega, ?_, ?_, fun i b v hb hv => ?_⟩
  · rw [Go.Joins.block_setCell hg1 _]
    congr 2
    apply Array.toList_inj.1
    rw [Array.toList_setIfInBounds]
    apply List.ext_getElem?
    intro i
    rw [List.getElem?_set]
    simp only [List.map_append, List.map_cons, List.map_nil, List.length_append, List.length_cons, List.length_nil]
    by_cases hi : bs.length = i
    · subst hi
      simp
      omega
    · rw [if_neg hi]
      by_cases hlt : i < bs.length
      · rw [List.getElem?_append_left (by simpa using hlt), List.getElem?_append_left (by simp; omega), List.getElem?_append_left (by simpa using hlt)]
      · rw [List.getElem?_append_right (by simp; omega), List.getElem?_append_right (by simp; omega)]
        simp only [List.length_map, List.length_append, List.length_cons, List.length_nil, List.getElem?_replicate]
        by_cases h1 : i < n
        · rw [if_pos (by omega), if_pos (by omega)]
        · rw [if_neg (by omega), if_neg (by omega)]
  · rw [List.nodup_append]
    exact ⟨h.nd, by simp, fun a ha b hb e => by rw [List.mem_singleton.1 hb] at e; have := hlt a ha; omega⟩
  · rw [List.mem_append, List.mem_singleton]
    rintro (e | e)
    · exact h.ng e
    · omega
  · by_cases hi : i < bs.length
    · rw [List.getElem?_append_left hi] at hb
      rw [List.getElem?_append_left (by rw [h.len]; exact hi)] at hv
      have hbm := List.mem_of_getElem? hb
      rw [heap_setCell_other _ ⟨g, bs.length, none⟩ _ b (show b ≠ g from fun e => h.ng (e ▸ hbm))]
      exact (k1.block b (hlt b hbm) fun _ h => h).trans (h.at' i b v hb hv)
    · have hi2 : i = bs.length := by have := (List.getElem?_eq_some_iff.1 hb).1; simp at this; omega
      subst hi2
      rw [List.getElem?_append_right (Nat.le_refl _)] at hb
      rw [List.getElem?_append_right (by rw [h.len]; exact Nat.le_refl _), h.len] at hv
      simp at hb hv
      subst hb
      subst hv
      rw [heap_setCell_other _ ⟨g, bs.length, none⟩ _ w.heap.size (show w.heap.size ≠ g by omega)]
      exact heap_alloc_at _ _ _ rfl
/-- A word is another one. -/
theorem SetL.set {w : World} {g n : Nat} {bs vs : List Nat} (h : SetL w g n bs vs) {i b : Nat} (hi : bs[i]? = some b) (v : Nat) : SetL (w.setCell ⟨b, 0, none⟩ (.int .u64 (v : Int))) g n bs (vs.set i v) := by
  have hbm := List.mem_of_getElem? hi
  have hil := (List.getElem?_eq_some_iff.1 hi).1
  refine ⟨(heap_setCell_other _ ⟨b, 0, none⟩ _ g (show g ≠ b from fun e => h.ng (e ▸ hbm))).trans h.h, by rw [List.length_set]; exact h.len, h.le, h.nd, h.ng, fun j c u hc hu => ?_⟩
  by_cases e : j = i
  · subst e
    rw [hi] at hc
    cases hc
    rw [List.getElem?_set_self (by rw [h.len]; exact hil)] at hu
    cases hu
    rw [Go.Joins.block_setCell (h.at' j b _ hi (List.getElem?_eq_getElem (by rw [h.len]; exact hil))) _]
    rfl
  · rw [List.getElem?_set_ne (fun h => e h.symm)] at hu
    have hne : c ≠ b := fun q => by
      subst q
      have h1 := (List.getElem?_eq_some_iff.1 hc).1
      exact e ((List.getElem?_inj h1 h.nd).1 (hc.trans hi.symm))
    exact (heap_setCell_other _ ⟨b, 0, none⟩ _ c hne).trans (h.at' j c u hc hu)
theorem SetL.cellG {w : World} {g n : Nat} {bs vs : List Nat} (h : SetL w g n bs vs) {i b : Nat} (hi : bs[i]? = some b) : w.cell? ⟨g, i, none⟩ = some (uSl b) ∧ g < w.heap.size := by
  have hil := (List.getElem?_eq_some_iff.1 hi).1
  refine ⟨cell_of_heap (o := i) h.h ?_, lt_of_heap h.h⟩
  rw [List.getElem?_toArray, List.getElem?_append_left (by simpa using hil), List.getElem?_map, hi]
  rfl
theorem SetL.cellB {w : World} {g n : Nat} {bs vs : List Nat} (h : SetL w g n bs vs) {i b v : Nat} (hi : bs[i]? = some b) (hv : vs[i]? = some v) : w.cell? ⟨b, 0, none⟩ = some (.int .u64 (v : Int)) ∧ w.frozen? ⟨b, 0, none⟩ = false ∧ b < w.heap.size :=
  ⟨cell_of_heap (o := 0) (h.at' i b v hi hv) rfl, free_of_heap (h.at' i b v hi hv), lt_of_heap (h.at' i b v hi hv)⟩
theorem infoUs : (Tryz.prog.info? TUs).map (fun i => (i.zero, i.size, i.bytes)) = some (some (.slice none 0 0), 1, 24) := by kernel_rfl
theorem make_setL (w : World) (n : Nat) (hn : n ≤ 100000) : ∃ w', (Instr.makeSlice 88 (.int .i64 (n : Int)) (.int .i64 (n : Int))).run Tryz.prog w = .ok (.slice (some ⟨w.heap.size, 0, none⟩) n n) w' ∧ SetL w' w.heap.size n [] [] ∧ Keep NoS w w' := by
  obtain ⟨i0, hi0, hz0, hz1, hz2⟩ := info_parts infoUs
  obtain ⟨w', hr, ho, hg⟩ := run_make_full (P := Tryz.prog) w w.heap.size 88 TUs i0 (.slice none 0 0) 1 Tryz.underlying88 hi0 hz0 hz1 .i64 .i64 n (by rw [hz2]; omega) (by unfold maxLen; omega) (Nat.le_refl _)
  refine ⟨w', hr, ⟨?_, rfl, by simp, List.nodup_nil, by simp, fun i b v hb => by simp at hb⟩, Keep.of_below (grown_keep hg w.heap.size (Nat.le_refl _) (by simp)) (Nat.le_refl _)⟩
  have hm : (madeCells (Value.slice none 0 0).cells (n * 1)).toList = List.replicate n (Value.slice none 0 0) := by
    apply List.ext_getElem?
    intro i
    by_cases hi : i < n
    · have hm : i % 1 = 0 := Nat.mod_one i
      simp [madeCells, Value.cells, hi, hm]
    · rw [List.getElem?_eq_none (by simp [madeCells]; omega), List.getElem?_eq_none (by simp; omega)]
  simp only [List.map_nil, List.nil_append, List.length_nil, Nat.sub_zero]
  rw [← hm]
  obtain ⟨hl, h | ⟨g, cap, cur, hv, hb, hgg, hl', hmm, hs, ht⟩⟩ := ho
  · cases h.1
  · cases hv
    have e2 : cur.toList.take (n * 1) = cur.toList := List.take_of_length_le (by rw [Array.length_toList, hs]; omega)
    rw [hgg, ← ht, e2, Array.toArray_toList]
end Go.Proofs.YtnndmdfjdodiiaaGreat

namespace Go.Proofs.YtnndmdfjdodiiaaGreat
open Go.ChangeShapes Go.WideShapes Go.RowKit Go.Maps
set_option linter.unusedVariables false
set_option linter.unusedSimpArgs false

theorem SetL.cellN {w : World} {g n : Nat} {bs vs : List Nat} (h : SetL w g n bs vs) (hn : bs.length < n) : w.cell? ⟨g, bs.length, none⟩ = some (.slice none 0 0) ∧ w.frozen? ⟨g, bs.length, none⟩ = false ∧ g < w.heap.size := by
  refine ⟨cell_of_heap (o := bs.length) h.h ?_, free_of_heap h.h, lt_of_heap h.h⟩
  rw [List.getElem?_toArray, List.getElem?_append_right (by simp), List.length_map, Nat.sub_self, List.getElem?_replicate, if_pos (by omega)]
def satK (c : List Int) (j : Nat) : Bool := c.any (Sv.litB (asgL j))
def vsK (cls : List (List Int)) (k i : Nat) : List Nat := (cls.take i).map (fun c => maskN (satK c) (k + 1)) ++ (cls.drop i).map fun c => maskN (satK c) k
theorem vsK_zero (cls : List (List Int)) (k : Nat) : vsK cls k 0 = cls.map fun c => maskN (satK c) k := by simp [vsK]
theorem vsK_all (cls : List (List Int)) (k : Nat) : vsK cls k cls.length = cls.map fun c => maskN (satK c) (k + 1) := by simp [vsK]
theorem vsK_at {cls : List (List Int)} {k i : Nat} (hi : i < cls.length) : (vsK cls k i)[i]? = some (maskN (satK cls[i]) k) := by
  unfold vsK
  rw [List.getElem?_append_right (by simp; omega)]
  simp [Nat.min_eq_left (Nat.le_of_lt hi), hi]
theorem vsK_succ {cls : List (List Int)} {k i : Nat} (hi : i < cls.length) : vsK cls k (i + 1) = (vsK cls k i).set i (maskN (satK cls[i]) (k + 1)) := by
  have e : vsK cls k i = (cls.take i).map (fun c => maskN (satK c) (k + 1)) ++ maskN (satK cls[i]) k :: (cls.drop (i + 1)).map fun c => maskN (satK c) k := by
    unfold vsK
    rw [List.drop_eq_getElem_cons hi, List.map_cons]
  rw [e]
  unfold vsK
  rw [List.take_succ_eq_append_getElem hi, List.map_append, List.append_assoc, List.set_append_right (h := by simp; omega)]
  simp [Nat.min_eq_left (Nat.le_of_lt hi)]
theorem set_same {l : List Nat} {i v : Nat} (h : l[i]? = some v) : l.set i v = l := by
  apply List.ext_getElem?
  intro j
  by_cases e : i = j
  · subst e
    rw [List.getElem?_set_self (List.getElem?_eq_some_iff.1 h).1, h]
  · rw [List.getElem?_set_ne e]
theorem or_val {mv k : Nat} (hm : mv < 2 ^ k) (hk : k < 32) : bits BinOp.or IntKind.u64 (mv : Int) (IntKind.u64.wrap (2 ^ k)) = ((mv ||| 2 ^ k : Nat) : Int) := by
  have h2 : (2 : Nat) ^ k < 2 ^ 32 := Nat.pow_lt_pow_right (by omega) hk
  have e : IntKind.u64.wrap ((2 : Int) ^ k) = ((2 ^ k : Nat) : Int) := by
    rw [IntKind.wrap_u64, show ((2 : Int) ^ k) = ((2 ^ k : Nat) : Int) by simp]
    omega
  rw [e]
  exact bits_or_u64_nat _ _ (by omega) (by omega)
set_option maxRecDepth 100000 in
set_option maxHeartbeats 16000000 in
theorem sets_any (w : World) (oc : Option Addr) (cc : Nat) (cls : List (List Int)) (hc : IsCls w (.slice oc cls.length cc) cls) (hv : ∀ c ∈ cls, ValidC 5 c) (hl : cls.length ≤ 20) :
    Calls Tryz.prog 31 #[.agg #[.int .i64 5, .slice oc cls.length cc]] w fun e w' => ∃ g bs, e = .returned (.slice (some ⟨g, 0, none⟩) cls.length cls.length) ∧ SetL w' g cls.length bs (cls.map fun c => maskN (satK c) 32) ∧ bs.length = cls.length ∧ Keep NoS w w' := by
  have HC := Lib.hid hc
  have HV := Lib.hid hv
  have HLN := Lib.hid hl
  obtain ⟨w2, hw2⟩ : ∃ w2 : World, w2 = w.alloc (.cells #[.int .i64 5, .slice oc cls.length cc] TCn) := ⟨_, rfl⟩
  have K2 : Keep NoS w w2 := by rw [hw2]; exact (Keep.refl _ _).alloc _
  have B1 : Hid (Blk w2 w.heap.size #[.int .i64 5, .slice oc cls.length cc]) := Lib.hid (by rw [hw2]; exact blk_at _ _ rfl)
  obtain ⟨w3, hr3, hs3, hk3⟩ := make_setL w2 cls.length (by omega)
  have HS3 := Lib.hid hs3
  have HK2 := Lib.hid K2
  have HK3 := Lib.hid hk3
  have HG2 : Hid (w.heap.size < w2.heap.size) := Lib.hid (by rw [hw2]; simp)
  clear hc hv hs3 hk3 K2
  generalize hn : cls.length = n at *
  have HN := Lib.hid hn
  clear hn
  go_enter Tryz.func31, Tryz.ntmps31
  go_upto_region 1 with fail
  rw [← hw2]
  clear hw2
  have x0 : w2.cell? ⟨w.heap.size, 0, none⟩ = some (.int .i64 5) := B1.out.cell 0
  have x1 : w2.cell? ⟨w.heap.size, 1, none⟩ = some (.slice oc n cc) := B1.out.cell 1
  have xl := B1.out.lt
  go_wp2
  generalize hgg : w2.heap.size = g at *
  have HG := Lib.hid hgg
  clear hgg
  clear hr3 x0 x1 xl
  go_loopw [15] (fun t wr => ∃ (i : Nat) (bs : List Nat), t = .int .i64 (i : Int) ∧ i ≤ n ∧ bs.length = i ∧ SetL wr g n bs (List.replicate i 0) ∧ (∀ b ∈ bs, g ≤ b) ∧ Keep NoS w2 wr) (fun t _ => (n - intOf t).toNat)
  case atStart => exact ⟨0, [], rfl, by omega, rfl, HS3.out, by simp, HK3.out⟩
  case round =>
    obtain ⟨i, bs, rfl, hi, hbl, hs, hge, hkr⟩ := hrel
    have HGE := Lib.hid hge
    clear hge
    have HS := Lib.hid hs
    have HKR := Lib.hid hkr
    have HBL := Lib.hid hbl
    have BR := Lib.hid (B1.out.keep hkr)
    have x0 : wr.cell? ⟨w.heap.size, 0, none⟩ = some (.int .i64 5) := BR.out.cell 0
    have x1 : wr.cell? ⟨w.heap.size, 1, none⟩ = some (.slice oc n cc) := BR.out.cell 1
    have xl := BR.out.lt
    clear hs hkr hbl
    by_cases hin : i < n
    case pos =>
      have hlt : (i : Int) < (n : Int) := by omega
      have hd : decide ((i : Int) < (n : Int)) = true := decide_eq_true hlt
      have hsp := HS.out
      have hbl := HBL.out
      have k4 : Keep NoS wr (wr.alloc (.cells #[.int .u64 0] TU)) := (Keep.refl _ _).alloc _
      have HP := Lib.hid (hsp.push (by omega))
      obtain ⟨n0, n1, n2⟩ := (hsp.keep k4).cellN (by omega)
      rw [hbl] at HP n0 n1
      have HKN := Lib.hid (keep_at (HKR.out.both k4) (b := g) (i := i) (uSl wr.heap.size) (by have := HG.out; omega))
      have HGN : Hid (∀ b ∈ bs ++ [wr.heap.size], g ≤ b) := Lib.hid (fun b hb => (List.mem_append.1 hb).elim (HGE.out b) fun h => by rw [List.mem_singleton.1 h]; have := HKR.out.size; have := HG.out; omega)
      have x1' := (k4.cell (i := 1) xl).trans x1
      clear hsp hbl
      have hr1 : (Instr.makeSlice 125 (.int .i64 1) (.int .i64 1)).run Tryz.prog wr = .ok (.slice (some ⟨wr.heap.size, 0, none⟩) 1 1) (wr.alloc (.cells #[.int .u64 0] TU)) := by kernel_rfl
      go_wp2
      go_roundw
      case rel => exact ⟨i + 1, bs ++ [wr.heap.size], by go_num, by omega, by rw [List.length_append, HBL.out]; rfl, by rw [List.replicate_succ']; exact HP.out, HGN.out, HKN.out⟩
      case measure => simp [intOf]; omega
    case neg =>
      have hlt : ¬ (i : Int) < (n : Int) := by omega
      have hd : decide ((i : Int) < (n : Int)) = false := decide_eq_false hlt
      have HSE : Hid (SetL wr g n bs (cls.map fun c => maskN (satK c) 0)) := Lib.hid (by
        have e : (cls.map fun c => maskN (satK c) 0) = List.replicate i 0 := by
          rw [show i = cls.length by have := HN.out; omega]
          exact List.map_const' ..
        rw [e]
        exact HS.out)
      have HBE : Hid (bs.length = n) := Lib.hid (by rw [HBL.out]; omega)
      have HKE := Lib.hid (HKR.out)
      clear HS HBL hin hi
      go_wp2
      clear x0 x1 xl hd hlt
      go_loopw [31] (fun t wz => ∃ k : Nat, t = .int .i64 (k : Int) ∧ k ≤ 32 ∧ SetL wz g n bs (cls.map fun c => maskN (satK c) k) ∧ Keep NoS w2 wz) (fun t _ => (32 - intOf t).toNat)
      case atStart => exact ⟨0, rfl, by omega, HSE.out, HKE.out⟩
      case round =>
        clear HSE HKE HKR BR
        obtain ⟨k, rfl, hk, hs, hkr⟩ := hrel
        have HS := Lib.hid hs
        have HKR := Lib.hid hkr
        have BR := Lib.hid (B1.out.keep hkr)
        have x0 : wr.cell? ⟨w.heap.size, 0, none⟩ = some (.int .i64 5) := BR.out.cell 0
        have x1 : wr.cell? ⟨w.heap.size, 1, none⟩ = some (.slice oc n cc) := BR.out.cell 1
        have xl := BR.out.lt
        clear hs hkr
        by_cases hk32 : k < 32
        case neg =>
          have hlt : ¬ (k : Int) < 32 := by omega
          have hd : decide ((k : Int) < 32) = false := decide_eq_false hlt
          obtain rfl : k = 32 := by omega
          go_wp2
          refine bodyPost_ret (by simp [results, Tryz.results31, go_sem]; rfl) rfl ?_
          exact ⟨g, rfl, bs, HS.out, HBE.out, HK2.out.both HKR.out⟩
        case pos =>
          have hlt : (k : Int) < 32 := by omega
          have hd : decide ((k : Int) < 32) = true := decide_eq_true hlt
          have CA := fun w' => Lib.hid (asg_any w' k hk32)
          go_wp2_with fail
          refine (CA _).out.mono ?_
          rintro e w4 ⟨ga, rfl, hga, hk4⟩
          have HGA := Lib.hid hga
          have HK4 := Lib.hid (HKR.out.both hk4)
          have B4 := Lib.hid (BR.out.keep hk4)
          have HS4 : Hid (SetL w4 g n bs (vsK cls k 0)) := Lib.hid (by rw [vsK_zero]; exact HS.out.keep hk4)
          clear x0 x1 xl hga hk4 CA HS HKR BR
          have x0 : w4.cell? ⟨w.heap.size, 0, none⟩ = some (.int .i64 5) := B4.out.cell 0
          have x1 : w4.cell? ⟨w.heap.size, 1, none⟩ = some (.slice oc n cc) := B4.out.cell 1
          have xl := B4.out.lt
          go_wp2
          clear x0 x1 xl hlt hd
          go_loopw [41] (fun t wz => ∃ i : Nat, t = .int .i64 (i : Int) ∧ i ≤ n ∧ SetL wz g n bs (vsK cls k i) ∧ BoolsT wz ga (asgL k) ∧ Keep NoS w2 wz) (fun t _ => (n - intOf t).toNat)
          case atStart => exact ⟨0, rfl, by omega, HS4.out, HGA.out, HK4.out⟩
          case round =>
            clear HS4 HGA HK4 B4
            obtain ⟨i, rfl, hi, hs, hga, hkr⟩ := hrel
            have HS := Lib.hid hs
            have HKR := Lib.hid hkr
            have HGA := Lib.hid hga
            clear hs hkr hga
            by_cases hin : i < n
            case neg =>
              have hlt : ¬ (i : Int) < (n : Int) := by omega
              have hd : decide ((i : Int) < (n : Int)) = false := decide_eq_false hlt
              have HSN : Hid (SetL wr g n bs (cls.map fun c => maskN (satK c) (k + 1))) := Lib.hid (by
                have h1 := HS.out
                rw [show i = cls.length by have := HN.out; omega, vsK_all] at h1
                exact h1)
              go_wp2
              go_roundw
              case rel => exact ⟨k + 1, by go_num, by omega, HSN.out, HKR.out⟩
              case measure => simp [intOf]; omega
            case pos =>
              have hlt : (i : Int) < (n : Int) := by omega
              have hd : decide ((i : Int) < (n : Int)) = true := decide_eq_true hlt
              have hic : i < cls.length := by rw [HN.out]; exact hin
              obtain ⟨b1, o1, oq, cq, e1, l1, p1, pI, -, -⟩ := ((HC.out.keep (HK2.out.both HKR.out))).at hic
              subst e1
              have hvc := HV.out _ (List.getElem_mem hic)
              have CS := Lib.hid (fun w' (k' : Keep NoS wr w') => sat_any w' (.slice oq cls[i].length cq) (.slice (some ⟨ga, 0, none⟩) 5 5) cls[i] (asgL k) (pI.keep k') (by have := (HGA.out.fr (.of k')).bools; exact this) (fun x hx => by have := hvc.2 x hx; unfold asgL; simp; exact this) (by unfold asgL; simp))
              have HVA := Lib.hid (vsK_at (k := k) hic)
              have HVS := Lib.hid (vsK_succ (k := k) hic)
              have hib : i < bs.length := by rw [HBE.out]; exact hin
              have HBI := Lib.hid (List.getElem?_eq_getElem hib)
              have CS := Lib.hid (fun w' k' => show Calls Tryz.prog 65 #[.slice oq cls[i].length cq, .slice (some ⟨ga, 0, none⟩) 5 5] w' fun e w'' => e = .returned (.bool (satK cls[i] k)) ∧ Keep NoS w' w'' from CS.out w' k')
              generalize cls[i] = c at *
              generalize bs[i] = b at *
              clear hvc pI hic hib
              go_wp2_with fail
              refine (CS.out _ (by (repeat' (with_reducible first | assumption | exact HK.out | exact keR | refine keA ?_ | refine keS ?_ fun h => absurd h (by omega) | refine keN ?_ | refine keD ?_)))).mono ?_
              rintro e w6 ⟨rfl, hk6⟩
              have k6 : Keep NoS wr w6 := Keep.both (by (repeat' (with_reducible first | assumption | exact HK.out | exact keR | refine keA ?_ | refine keS ?_ fun h => absurd h (by omega) | refine keN ?_ | refine keD ?_))) hk6
              have HS6 := Lib.hid (HS.out.keep k6)
              have HK6 := Lib.hid (HKR.out.both k6)
              have HG6 : Hid (BoolsT w6 ga (asgL k)) := Lib.hid (HGA.out.fr (.of k6))
              have hmk : maskN (satK c) (k + 1) = if satK c k then maskN (satK c) k ||| 2 ^ k else maskN (satK c) k := rfl
              clear hk6 k6 CS p1 l1 HS HGA HKR
              generalize satK c k = sat at *
              cases sat with
              | false =>
                have HSN : Hid (SetL w6 g n bs (vsK cls k (i + 1))) := Lib.hid (by
                  rw [HVS.out, hmk, if_neg (by simp), set_same HVA.out]
                  exact HS6.out)
                clear hmk
                go_wp2
                go_roundw
                case rel => exact ⟨i + 1, by go_num, by omega, HSN.out, HG6.out, HK6.out⟩
                case measure => simp [intOf]; omega
              | true =>
                obtain ⟨g0, gl⟩ := HS6.out.cellG HBI.out
                obtain ⟨c0, c1, cl⟩ := HS6.out.cellB HBI.out HVA.out
                have HSN := Lib.hid (HS6.out.set HBI.out (maskN (satK c) k ||| 2 ^ k))
                have hlm := maskN_lt (satK c) k
                generalize maskN (satK c) k = mv at *
                unfold uSl at g0
                have hq : (k : Int).tdiv 64 = 0 := by rw [Int.tdiv_eq_ediv_of_nonneg (by omega)]; omega
                have hm : (k : Int).tmod 64 = (k : Int) := by rw [Int.tmod_eq_emod_of_nonneg (by omega)]; omega
                go_upto_region 15 with fail
                refine wp_region_by (fun w' => Keep NoS w6 w') [13] [([0, 1, 2, 3, 4, 5, 6, 7, 8, 9, 10, 11, 12], 13)] [] (by kernel_rfl) (by kernel_rfl) (Keep.refl _ _).drew ?_
                intro X W hne hF hcl
                have HCL := Lib.hid hcl
                have z0 := fun x => ((hF x).cell gl).trans g0
                have z1 := fun x => ((hF x).cell cl).trans c0
                have zl := fun x => Nat.lt_of_lt_of_le gl (hF x).size
                have zm := fun x => Nat.lt_of_lt_of_le cl (hF x).size
                clear hF hcl
                simp only [wpPlan, pickOps, List.getElem?_toArray, List.getElem?_cons_zero, List.getElem?_cons_succ, clsOf, Bool.false_eq_true, if_false]
                (repeat (go_big_quiet_step (fail))); refine wpQuiet_nil ?_
                refine wpWa rfl rfl fun K hK => ?_
                go_simp
                rw [or_val hlm hk32]
                refine hK _ _ ⟨fun h => (by simp at h), ?_⟩
                have hb2 := HGE.out b (List.mem_of_getElem? HBI.out)
                have HSD : Hid (SetL (w6.setCell ⟨b, 0, none⟩ (.int .u64 ((mv ||| 2 ^ k : Nat) : Int))).drew g n bs (vsK cls k (i + 1))) := Lib.hid (by
                  rw [HVS.out, hmk, if_pos (by trivial)]
                  exact HSN.out.keep (Keep.refl _ _).drew)
                have q1 := (OneB.refl (w := w6) (b := b) (t := TU) ⟨_, HS6.out.at' i b mv HBI.out HVA.out⟩).set ⟨by decide, by decide⟩ 0 (.int .u64 ((mv ||| 2 ^ k : Nat) : Int))
                have HGD : Hid (BoolsT (w6.setCell ⟨b, 0, none⟩ (.int .u64 ((mv ||| 2 ^ k : Nat) : Int))).drew ga (asgL k)) := Lib.hid ((HG6.out.fr q1.fr).fr (.of (Keep.refl _ _).drew))
                have HKD := Lib.hid ((keep_at HK6.out (b := b) (i := 0) (.int .u64 ((mv ||| 2 ^ k : Nat) : Int)) (by have := HG.out; omega)).drew)
                clear hK HCL z0 z1 zl zm g0 gl c0 c1 cl q1 hmk
                (repeat (go_big_quiet_step (fail))); refine wpQuiet_nil ?_
                refine NoPanic.normal ?_
                go_wp2
                go_roundw
                case rel => exact ⟨i + 1, by go_num, by omega, HSD.out, HGD.out, HKD.out⟩
                case measure => simp [intOf]; omega
end Go.Proofs.YtnndmdfjdodiiaaGreat

namespace Go.Proofs.YtnndmdfjdodiiaaGreat
open Go.ChangeShapes Go.WideShapes Go.RowKit Go.Maps
set_option linter.unusedVariables false
set_option linter.unusedSimpArgs false

def allK (p : Nat → Bool) (vs : List Nat) (i j : Nat) : Bool := (List.range i).all fun k => !p k || (vs.getD k 0).testBit j
/-- Do some hold together? -/
def openB (p : Nat → Bool) (vs : List Nat) : Bool := (List.range 32).any (allK p vs vs.length)
theorem allK_succ (p : Nat → Bool) (vs : List Nat) (i j : Nat) : allK p vs (i + 1) j = (allK p vs i j && (!p i || (vs.getD i 0).testBit j)) := by
  unfold allK
  rw [List.range_succ, List.all_append]
  simp
theorem open_end {p : Nat → Bool} {vs : List Nat} {X : Nat} (h : ∀ j, X.testBit j = (decide (j < 32) && allK p vs vs.length j)) : openB p vs = decide (X ≠ 0) := by
  rw [Bool.eq_iff_iff, decide_eq_true_iff]
  unfold openB
  rw [List.any_eq_true]
  constructor
  · rintro ⟨j, hj, ha⟩ e
    have := h j
    rw [e, Nat.zero_testBit, decide_eq_true (List.mem_range.1 hj), ha] at this
    simp at this
  · intro hne
    obtain ⟨j, hj⟩ : ∃ j, X.testBit j = true := by
      apply Classical.byContradiction
      intro hno
      exact hne (Nat.eq_of_testBit_eq fun j => by
        rw [Nat.zero_testBit]
        rcases hb : X.testBit j with _ | _
        · rfl
        · exact absurd ⟨j, hb⟩ hno)
    have := h j
    rw [hj] at this
    have := Bool.and_eq_true_iff.1 this.symm
    exact ⟨j, List.mem_range.2 (of_decide_eq_true this.1), this.2⟩
set_option maxRecDepth 100000 in
set_option maxHeartbeats 16000000 in
theorem open_any (f : Nat) (cp : Array Value) (hcf : ∀ a w, Sem.run Tryz.prog (callFunc f a) w = .ok (.enter f a) w) (p : Nat → Bool) (w : World) (g n : Nat) (bs vs : List Nat) (hs : SetL w g n bs vs) (hn : bs.length = n) (hn2 : n ≤ 100) (hv : ∀ v ∈ vs, v < 2 ^ 32) (hc : ∀ w', Keep NoS w w' → ∀ i : Nat, i < n → Calls Tryz.prog f (#[.int .i64 (i : Int)] ++ cp) w' fun e w'' => e = .returned (.bool (p i)) ∧ Keep NoS w' w'') :
    Calls Tryz.prog 33 #[.slice (some ⟨g, 0, none⟩) n n, .int .i64 5, .func (.func f) #[] cp] w fun e w' => e = .returned (.bool (openB p vs)) ∧ Keep NoS w w' := by
  have HS := Lib.hid hs
  have HN := Lib.hid hn
  have HV := Lib.hid hv
  have HC := Lib.hid hc
  have HLV := Lib.hid (hs.len.trans hn)
  clear hs hn hv hc
  go_enter Tryz.func33, Tryz.ntmps33
  go_wp2
  go_loopw [14] (fun t wr => (t = .int .i64 0 ∧ wr = w) ∨ (t = .int .i64 1 ∧ openB p vs = false ∧ Keep NoS w wr)) (fun t _ => (1 - intOf t).toNat)
  case atStart => exact .inl ⟨rfl, rfl⟩
  case round =>
    rcases hrel with ⟨rfl, hw⟩ | ⟨rfl, hob, hkr⟩
    case inr =>
      have HOB := Lib.hid hob
      have HKR := Lib.hid hkr
      clear hob hkr
      go_wp2
      refine bodyPost_ret (by simp [results, Tryz.results33, go_sem]; rfl) rfl ?_
      exact ⟨by rw [HOB.out], HKR.out⟩
    case inl =>
    have hw : w = wr := hw.symm
    subst hw
    go_wp2
    go_loopw [8, 25] (fun a t wr => ∃ (X i : Nat), a = .int .u64 (X : Int) ∧ t = .int .i64 (i : Int) ∧ i ≤ n ∧ X < 2 ^ 32 ∧ (∀ j, X.testBit j = (decide (j < 32) && allK p vs i j)) ∧ Keep NoS w wr) (fun _ t _ => (n - intOf t).toNat)
    case atStart => exact ⟨2 ^ 32 - 1, 0, rfl, rfl, by omega, by omega, fun j => by rw [Nat.testBit_two_pow_sub_one]; simp [allK], Keep.refl _ _⟩
    case round =>
      obtain ⟨X, i, rfl, rfl, hi, hX, hb, hkr⟩ := hrel
      have HB := Lib.hid hb
      have HKR := Lib.hid hkr
      have HX := Lib.hid hX
      clear hb hkr hX
      by_cases hin : i < n
      case neg =>
        have hlt : ¬ (i : Int) < (n : Int) := by omega
        have hd : decide ((i : Int) < (n : Int)) = false := decide_eq_false hlt
        have HE : Hid (openB p vs = decide (X ≠ 0)) := Lib.hid (open_end (by
          have h1 := HB.out
          rw [show i = vs.length by rw [HLV.out]; omega] at h1
          exact h1))
        by_cases hx0 : X = 0
        · subst hx0
          have HE := Lib.hid (HE.out.trans (by simp : decide ((0 : Nat) ≠ 0) = false))
          go_wp2
          go_roundw
          case rel => exact .inr ⟨rfl, HE.out, HKR.out⟩
          case measure => simp [intOf]
        · have e1 : ((X : Int) != 0) = true := by rw [bne_iff_ne]; omega
          go_wp2
          refine bodyPost_ret (by simp [results, Tryz.results33, go_sem]; rfl) rfl ?_
          exact ⟨by rw [HE.out, decide_eq_true hx0], HKR.out⟩
      case pos =>
        have hlt : (i : Int) < (n : Int) := by omega
        have hd : decide ((i : Int) < (n : Int)) = true := decide_eq_true hlt
        have CC := Lib.hid (HC.out wr HKR.out i hin)
        go_wp2_with fail
        refine CC.out.mono ?_
        rintro e w6 ⟨rfl, hk6⟩
        have HK6 := Lib.hid (HKR.out.both hk6)
        have hib : i < bs.length := by rw [HN.out]; exact hin
        have hiv : i < vs.length := by rw [HLV.out]; exact hin
        have HST := Lib.hid (fun j => allK_succ p vs i j)
        have hgd : vs.getD i 0 = vs[i] := by rw [List.getD_eq_getElem?_getD, List.getElem?_eq_getElem hiv]; rfl
        have HVI := Lib.hid (HV.out _ (List.getElem_mem hiv))
        obtain ⟨g0, gl⟩ := (HS.out.keep HK6.out).cellG (List.getElem?_eq_getElem hib)
        obtain ⟨c0, c1, cl⟩ := (HS.out.keep HK6.out).cellB (List.getElem?_eq_getElem hib) (List.getElem?_eq_getElem hiv)
        rw [hgd] at HST
        clear hgd hk6 CC
        unfold uSl at g0
        generalize vs[i] = v at *
        generalize bs[i] = b at *
        generalize p i = pb at *
        cases pb with
        | false =>
          have HBN : Hid (∀ j, X.testBit j = (decide (j < 32) && allK p vs (i + 1) j)) := Lib.hid (fun j => by rw [HST.out j, HB.out j]; simp)
          go_wp2
          go_roundw
          case rel => exact ⟨X, i + 1, rfl, by go_num, by omega, HX.out, HBN.out, HK6.out⟩
          case measure => simp [intOf]; omega
        | true =>
          have HBN : Hid (∀ j, (X &&& v).testBit j = (decide (j < 32) && allK p vs (i + 1) j)) := Lib.hid (fun j => by rw [HST.out j, Nat.testBit_and, HB.out j]; simp [Bool.and_assoc])
          have HXN : Hid (X &&& v < 2 ^ 32) := Lib.hid (Nat.lt_of_le_of_lt Nat.and_le_left HX.out)
          have hxv : bits BinOp.and IntKind.u64 (X : Int) (v : Int) = ((X &&& v : Nat) : Int) := by
            have h1 := HX.out
            have h2 := HVI.out
            exact bits_and_u64_nat X v (by omega) (by omega)
          go_wp2
          go_roundw
          case rel => exact ⟨X &&& v, i + 1, rfl, by go_num, by omega, HXN.out, HBN.out, HK6.out⟩
          case measure => simp [intOf]; omega
end Go.Proofs.YtnndmdfjdodiiaaGreat

namespace Go.Proofs.YtnndmdfjdodiiaaGreat
open Go.ChangeShapes Go.WideShapes Go.RowKit Go.Maps
set_option linter.unusedVariables false
set_option linter.unusedSimpArgs false

/-- What is left of the first i of a list, where what is open without one keeps it. -/
def strikeQ (O : (Nat → Bool) → Bool) (i : Nat) (q : Nat → Bool) : Nat → Bool := if O (fun j => q j && j != i) then q else fun j => q j && j != i
def qF (O : (Nat → Bool) → Bool) : Nat → Nat → Bool
  | 0 => fun _ => true
  | i + 1 => strikeQ O i (qF O i)
theorem qF_at (O : (Nat → Bool) → Bool) : ∀ i j : Nat, i ≤ j → qF O i j = true
  | 0, j, _ => rfl
  | i + 1, j, h => by
    have ih := qF_at O i j (by omega)
    unfold qF strikeQ
    split
    · exact ih
    · show (qF O i j && j != i) = true
      rw [ih]
      simp
      omega
def lstQ (q : Nat → Bool) (n : Nat) : List Nat := (List.range n).filter q
theorem qF_succ_lt (O : (Nat → Bool) → Bool) {i j : Nat} (h : j < i) : qF O (i + 1) j = qF O i j := by
  show strikeQ O i (qF O i) j = _
  unfold strikeQ
  split
  · rfl
  · have : (j != i) = true := by simp; omega
    show (qF O i j && j != i) = qF O i j
    rw [this, Bool.and_true]
theorem lstQ_succ (O : (Nat → Bool) → Bool) (i : Nat) : lstQ (qF O (i + 1)) (i + 1) = lstQ (qF O i) i ++ if O (fun j => qF O i j && j != i) then [i] else [] := by
  unfold lstQ
  rw [List.range_succ, List.filter_append]
  congr 1
  · exact List.filter_congr fun j hj => qF_succ_lt O (List.mem_range.1 hj)
  · have h1 : qF O (i + 1) i = O (fun j => qF O i j && j != i) := by
      show strikeQ O i (qF O i) i = _
      unfold strikeQ
      by_cases hO : O (fun j => qF O i j && j != i) = true
      · rw [if_pos hO, hO, qF_at O i i (Nat.le_refl _)]
      · rw [if_neg hO]
        simp at hO ⊢
        exact hO
    rw [List.filter_cons, h1]
    rfl
set_option maxRecDepth 100000 in
theorem fewCheck_any (w : World) (oc : Option Addr) (cc : Nat) (cls : List (List Int)) (hc : IsCls w (.slice oc cls.length cc) cls) (hok : CnfOK 5 cls) :
    Calls Tryz.prog 30 #[.agg #[.int .i64 5, .slice oc cls.length cc]] w fun e w' => e = .returned (.agg #[.int .i64 0, .int .i64 0]) ∧ Keep NoS w w' := by
  have CC := Lib.hid (fun w' (k : Keep NoS w w') => check_any 5 w' oc cc cls (hc.keep k) hok)
  obtain ⟨w2, hw2⟩ : ∃ w2 : World, w2 = (w.alloc (.cells #[.int .i64 5, .slice oc cls.length cc] TCn)).alloc (.cells #[.int .i64 0, .int .i64 0] TFa) := ⟨_, rfl⟩
  have K2 : Hid (Keep NoS w w2) := Lib.hid (by rw [hw2]; exact ((Keep.refl _ _).alloc _).alloc _)
  have B1 : Hid (Blk w2 w.heap.size #[.int .i64 5, .slice oc cls.length cc]) := Lib.hid (by rw [hw2]; exact Blk.old (blk_at _ _ rfl) _)
  have B2 : Hid (Blk w2 (w.heap.size + 1) #[.int .i64 0, .int .i64 0]) := Lib.hid (by rw [hw2]; exact blk_at _ _ (by simp))
  generalize cls.length = n at *
  clear hc hok
  go_enter Tryz.func30, Tryz.ntmps30
  go_upto_region 1 with fail
  rw [← hw2]
  clear hw2
  generalize hg1 : w.heap.size = g1 at *
  have HG1 := Lib.hid hg1
  clear hg1
  have x0 : w2.cell? ⟨g1, 0, none⟩ = some (.int .i64 5) := B1.out.cell 0
  have x1 : w2.cell? ⟨g1, 1, none⟩ = some (.slice oc n cc) := B1.out.cell 1
  have xl := B1.out.lt
  have CC := Lib.hid (CC.out w2 K2.out)
  go_wp2_with fail
  refine CC.out.mono ?_
  rintro e w3 ⟨rfl, hk3⟩
  have K4 : Hid (Keep NoS w2 (w3.alloc (.cells #[.int .i64 0, .int .i64 0] TFa))) := Lib.hid (Keep.both hk3 ((Keep.refl _ _).alloc _))
  clear x0 x1 xl hk3 CC
  go_upto_region 4 with fail
  generalize w3.alloc (.cells #[.int .i64 0, .int .i64 0] TFa) = w4 at *
  have B14 := B1.out.keep K4.out
  have B24 := B2.out.keep K4.out
  have x0 : w4.cell? ⟨g1, 0, none⟩ = some (.int .i64 5) := B14.cell 0
  have xl := B14.lt
  have d0 : w4.cell? ⟨g1 + 1, 0, none⟩ = some (.int .i64 0) := B24.cell 0
  have d1 : w4.cell? ⟨g1 + 1, 1, none⟩ = some (.int .i64 0) := B24.cell 1
  have e0 := B24.free 0
  have e1 := B24.free 1
  have dl := B24.lt
  clear B14 B24
  go_wp2
  refine bodyPost_ret (by simp [results, Tryz.results30, go_sem, d0, d1, dl]; rfl) rfl ?_
  have hg1 := HG1.out
  exact ⟨rfl, keep2 (K2.out.both K4.out) (by omega) _ _⟩
theorem fcA (a : Array Value) (w : World) : Sem.run Tryz.prog (callFunc 32 a) w = .ok (.enter 32 a) w := by kernel_rfl
theorem fewCore1_any (w : World) (b gi n : Nat) (L : List Bool) (i : Nat) (x : Bool) (hb : w.cell? ⟨b, 0, none⟩ = some (.slice (some ⟨gi, 0, none⟩) n n)) (hl : b < w.heap.size) (hL : BoolsT w gi L) (hn : L.length = n) (hi : L[i]? = some x) (hn2 : n ≤ 1000) :
    Calls Tryz.prog 32 #[.int .i64 (i : Int), .pointer (some ⟨b, 0, none⟩)] w fun e w' => e = .returned (.bool x) ∧ Keep NoS w w' := by
  have hil := (List.getElem?_eq_some_iff.1 hi).1
  have m0 : w.cell? ⟨gi, i, none⟩ = some (.bool x) := cell_of_heap (o := i) hL.1 (by simp [hi])
  have ml := lt_of_heap hL.1
  have h1 : (i : Int) < (n : Int) := by omega
  clear hL hn hi hil
  go_enter Tryz.func32, Tryz.ntmps32
  go_wp2
  go_ret
  exact ⟨rfl, by (repeat' (with_reducible first | assumption | exact HK.out | exact keR | refine keA ?_ | refine keS ?_ fun h => absurd h (by omega) | refine keN ?_ | refine keD ?_))⟩
end Go.Proofs.YtnndmdfjdodiiaaGreat

namespace Go.Proofs.YtnndmdfjdodiiaaGreat
open Go.ChangeShapes Go.WideShapes Go.RowKit Go.Maps
set_option linter.unusedVariables false
set_option linter.unusedSimpArgs false

def wordsK (cls : List (List Int)) : List Nat := cls.map fun c => maskN (satK c) 32
/-- Do some clauses hold together? -/
def openK (cls : List (List Int)) (q : Nat → Bool) : Bool := openB q (wordsK cls)
abbrev TBs : TypeId := 24
theorem BoolsT.setT {w : World} {g n : Nat} {q : Nat → Bool} (h : BoolsT w g ((List.range n).map q)) (i : Nat) (x : Bool) {q' : Nat → Bool} (hq : ∀ j, j < n → q' j = if j = i then x else q j) : BoolsT (w.setCell ⟨g, i, none⟩ (.bool x)) g ((List.range n).map q') := by
  have e : (List.range n).map q' = ((List.range n).map q).set i x := by
    apply List.ext_getElem?
    intro j
    rw [List.getElem?_set, List.getElem?_map, List.getElem?_map]
    by_cases hj : j < n
    · rw [List.getElem?_range hj]
      by_cases e : i = j
      · subst e
        rw [if_pos rfl, if_pos (by simpa using hj)]
        simp [hq i hj]
      · rw [if_neg e]
        show some (q' j) = some (q j)
        rw [hq j hj, if_neg fun h => e h.symm]
    · rw [List.getElem?_eq_none (by simp; omega)]
      by_cases e : i = j
      · subst e
        rw [if_pos rfl, if_neg (by simpa using hj)]
        rfl
      · rw [if_neg e]; rfl
  rw [e]
  exact h.set i x
theorem ty_ne' {w : World} {j k : Nat} {A B : Array Value} {t u : TypeId} (h : w.heap[j]? = some (.cells A t (0, 0))) (h' : w.heap[k]? = some (.cells B u (0, 0))) (ht : t ≠ u) : j ≠ k := by
  rintro rfl
  rw [h] at h'
  injection h' with h'
  injection h' with _ h'
  exact ht h'
theorem SetL.st {w : World} {g n : Nat} {bs vs : List Nat} (h : SetL w g n bs vs) {b i : Nat} {A : Array Value} {t : TypeId} (hb : w.heap[b]? = some (.cells A t (0, 0))) (h1 : TUs ≠ t) (h2 : TU ≠ t) (v : Value) : SetL (w.setCell ⟨b, i, none⟩ v) g n bs vs :=
  ⟨(heap_setCell_other _ ⟨b, i, none⟩ _ g (ty_ne' h.h hb h1)).trans h.h, h.len, h.le, h.nd, h.ng, fun j c u hc hu => (heap_setCell_other _ ⟨b, i, none⟩ _ c (ty_ne' (h.at' j c u hc hu) hb h2)).trans (h.at' j c u hc hu)⟩
set_option maxRecDepth 100000 in
set_option maxHeartbeats 16000000 in
theorem fewCore_any (w : World) (oc : Option Addr) (cc : Nat) (cls : List (List Int)) (hc : IsCls w (.slice oc cls.length cc) cls) (hv : ∀ c ∈ cls, ValidC 5 c) (hl : cls.length ≤ 20) :
    Calls Tryz.prog 12 #[.agg #[.int .i64 5, .slice oc cls.length cc]] w fun e w' => (if openK cls (fun _ => true) then e = .returned (.tuple #[.slice none 0 0, .agg #[.int .i64 11, .int .i64 0]]) else ∃ v', e = .returned (.tuple #[v', .agg #[.int .i64 0, .int .i64 0]]) ∧ OwnI w' w.heap.size v' ((lstQ (qF (openK cls) cls.length) cls.length).map Int.ofNat)) ∧ Keep NoS w w' := by
  have CK := Lib.hid (fun w' (k : Keep NoS w w') => fewCheck_any w' oc cc cls (hc.keep k) ⟨by omega, by omega, fun c h => ⟨hv c h, by have := (hv c h).le; omega⟩⟩)
  have CS := Lib.hid (fun w' (k : Keep NoS w w') => sets_any w' oc cc cls (hc.keep k) hv hl)
  obtain ⟨w2, hw2⟩ : ∃ w2 : World, w2 = (w.alloc (.cells #[.int .i64 5, .slice oc cls.length cc] TCn)).alloc (.cells #[.int .i64 0, .int .i64 0] TFa) := ⟨_, rfl⟩
  have K2 : Hid (Keep NoS w w2) := Lib.hid (by rw [hw2]; exact ((Keep.refl _ _).alloc _).alloc _)
  have B1 : Hid (Blk w2 w.heap.size #[.int .i64 5, .slice oc cls.length cc]) := Lib.hid (by rw [hw2]; exact Blk.old (blk_at _ _ rfl) _)
  have B2 : Hid (w2.heap[w.heap.size + 1]? = some (.cells #[.int .i64 0, .int .i64 0] TFa (0, 0))) := Lib.hid (by rw [hw2]; exact heap_alloc_at _ _ _ (by simp))
  obtain ⟨R, hR⟩ : ∃ R : Ending → World → Prop, R = fun e w' => (if openK cls (fun _ => true) then e = .returned (.tuple #[.slice none 0 0, .agg #[.int .i64 11, .int .i64 0]]) else ∃ v', e = .returned (.tuple #[v', .agg #[.int .i64 0, .int .i64 0]]) ∧ OwnI w' w.heap.size v' ((lstQ (qF (openK cls) cls.length) cls.length).map Int.ofNat)) ∧ Keep NoS w w' := ⟨_, rfl⟩
  rw [← hR]
  have HR := Lib.hid (fun e w' => congrFun (congrFun hR e) w')
  clear hR
  have HWL : Hid ((wordsK cls).length = cls.length) := Lib.hid (List.length_map ..)
  have HWV : Hid (∀ v ∈ wordsK cls, v < 2 ^ 32) := Lib.hid (fun v hv => by obtain ⟨c, -, rfl⟩ := List.mem_map.1 hv; exact maskN_lt _ _)
  have HLN := Lib.hid hl
  generalize hn : cls.length = n at *
  have HN := Lib.hid hn
  clear hn hc hv
  go_enter Tryz.func12, Tryz.ntmps12
  go_upto_region 1 with fail
  rw [← hw2]
  clear hw2
  generalize hg1 : w.heap.size = g1 at *
  have HG1 := Lib.hid hg1
  clear hg1
  have x0 : w2.cell? ⟨g1, 0, none⟩ = some (.int .i64 5) := B1.out.cell 0
  have x1 : w2.cell? ⟨g1, 1, none⟩ = some (.slice oc n cc) := B1.out.cell 1
  have xl := B1.out.lt
  have CK := Lib.hid (CK.out w2 K2.out)
  go_wp2_with fail
  refine CK.out.mono ?_
  rintro e w3 ⟨rfl, hk3⟩
  have K4 : Hid (Keep NoS w2 (w3.alloc (.cells #[.int .i64 0, .int .i64 0] TFa))) := Lib.hid (Keep.both hk3 ((Keep.refl _ _).alloc _))
  clear x0 x1 xl hk3 CK
  go_upto_region 4 with fail
  generalize w3.alloc (.cells #[.int .i64 0, .int .i64 0] TFa) = w4 at *
  have HK4 := Lib.hid (K2.out.both K4.out)
  have B14 := B1.out.keep K4.out
  have x0 : w4.cell? ⟨g1, 0, none⟩ = some (.int .i64 5) := B14.cell 0
  have x1 : w4.cell? ⟨g1, 1, none⟩ = some (.slice oc n cc) := B14.cell 1
  have xl := B14.lt
  have CS := Lib.hid (CS.out w4 HK4.out)
  clear B14
  go_wp2_with fail
  refine CS.out.mono ?_
  rintro e w5 ⟨g, bs, rfl, hs5, hbl, hk5⟩
  have HS5 : Hid (SetL w5 g n bs (wordsK cls)) := Lib.hid hs5
  have HBL := Lib.hid hbl
  have HK5 := Lib.hid (HK4.out.both hk5)
  have HK25 := Lib.hid (K4.out.both hk5)
  clear hs5 hbl hk5 CS x0 x1 xl
  obtain ⟨w6, hr6, hb6, hk6⟩ := make_boolsT w5 n (by have := HLN.out; omega)
  obtain ⟨w7, hw7⟩ : ∃ w7 : World, w7 = w6.alloc (.cells #[.slice (some ⟨w5.heap.size, 0, none⟩) n n] TBs) := ⟨_, rfl⟩
  have k67 : Keep NoS w6 w7 := by rw [hw7]; exact (Keep.refl _ _).alloc _
  have HT7 : Hid (w7.heap[w6.heap.size]? = some (.cells #[.slice (some ⟨w5.heap.size, 0, none⟩) n n] TBs (0, 0))) := Lib.hid (by rw [hw7]; exact heap_alloc_at _ _ _ rfl)
  have HS7 := Lib.hid (HS5.out.keep (hk6.both k67))
  have HB7 : Hid (BoolsT w7 w5.heap.size ((List.range n).map fun j => decide (j < 0))) := Lib.hid (by
    have e : ((List.range n).map fun j => decide (j < 0)) = List.replicate n false := by
      apply List.ext_getElem?
      intro j
      rw [List.getElem?_map, List.getElem?_replicate]
      by_cases hj : j < n
      · rw [List.getElem?_range hj, if_pos hj]; rfl
      · rw [List.getElem?_eq_none (by simp; omega), if_neg hj]; rfl
    rw [e]
    exact hb6.fr (.of k67))
  have HK7 := Lib.hid (HK5.out.both (hk6.both k67))
  have HK27 := Lib.hid (HK25.out.both (hk6.both k67))
  have hgi : w2.heap.size ≤ w5.heap.size := HK25.out.size
  have hti : w5.heap.size < w6.heap.size := lt_of_heap hb6.1
  clear hb6 hk6 k67
  go_upto_region 6 with fail
  rw [← hw7]
  clear hw7 hr6
  generalize w6.heap.size = gT at *
  generalize w5.heap.size = gi at *
  have t0 : w7.cell? ⟨gT, 0, none⟩ = some (.slice (some ⟨gi, 0, none⟩) n n) := cell_of_heap (o := 0) HT7.out rfl
  have tl := lt_of_heap HT7.out
  go_wp2
  clear t0 tl
  go_loopw [24] (fun t wr => ∃ i : Nat, t = .int .i64 (i : Int) ∧ i ≤ n ∧ SetL wr g n bs (wordsK cls) ∧ BoolsT wr gi ((List.range n).map fun j => decide (j < i)) ∧ wr.heap[gT]? = some (.cells #[.slice (some ⟨gi, 0, none⟩) n n] TBs (0, 0)) ∧ Keep NoS w2 wr) (fun t _ => (n - intOf t).toNat)
  case atStart => exact ⟨0, rfl, by omega, HS7.out, HB7.out, HT7.out, HK27.out⟩
  case round =>
    clear HS7 HB7 HT7 HK7 HK27 HS5 HK5 HK25
    obtain ⟨i, rfl, hi, hs, hb, ht, hkr⟩ := hrel
    have HS := Lib.hid hs
    have HB := Lib.hid hb
    have HT := Lib.hid ht
    have HKR := Lib.hid hkr
    have t0 : wr.cell? ⟨gT, 0, none⟩ = some (.slice (some ⟨gi, 0, none⟩) n n) := cell_of_heap (o := 0) ht rfl
    have tl := lt_of_heap ht
    clear hs hb ht hkr
    by_cases hin : i < n
    case pos =>
      have hlt : (i : Int) < (n : Int) := by omega
      have hd : decide ((i : Int) < (n : Int)) = true := decide_eq_true hlt
      have m0 : wr.cell? ⟨gi, i, none⟩ = some (.bool (decide (i < i))) := cell_of_heap (o := i) HB.out.1 (by simp [hin])
      have m1 : wr.frozen? ⟨gi, i, none⟩ = false := free_of_heap HB.out.1
      have ml := lt_of_heap HB.out.1
      have HBN := Lib.hid (HB.out.setT i true (q' := fun j => decide (j < i + 1)) fun j hj => by
        by_cases e : j = i
        · subst e; simp
        · rw [if_neg e, decide_eq_decide]; omega)
      have HSN : Hid (SetL (wr.setCell ⟨gi, i, none⟩ (.bool true)) g n bs (wordsK cls)) := Lib.hid (HS.out.st HB.out.1 (by decide) (by decide) _)
      have HTN : Hid ((wr.setCell ⟨gi, i, none⟩ (.bool true)).heap[gT]? = some (.cells #[.slice (some ⟨gi, 0, none⟩) n n] TBs (0, 0))) := Lib.hid ((heap_setCell_other _ ⟨gi, i, none⟩ _ gT (ty_ne' HT.out HB.out.1 (by decide))).trans HT.out)
      have HKN := Lib.hid (keep_at HKR.out (b := gi) (i := i) (.bool true) hgi)
      go_wp2
      go_roundw
      case rel => exact ⟨i + 1, by go_num, by omega, HSN.out, HBN.out, HTN.out, HKN.out⟩
      case measure => simp [intOf]; omega
    case neg =>
      have hlt : ¬ (i : Int) < (n : Int) := by omega
      have hd : decide ((i : Int) < (n : Int)) = false := decide_eq_false hlt
      have HB0 : Hid (BoolsT wr gi ((List.range n).map (qF (openK cls) 0))) := Lib.hid (by
        have e : ((List.range n).map (qF (openK cls) 0)) = (List.range n).map fun j => decide (j < i) := List.map_congr_left fun j hj => by
          have := List.mem_range.1 hj
          show true = _
          rw [decide_eq_true (by omega)]
        rw [e]
        exact HB.out)
      clear HB
      have x0 : wr.cell? ⟨g1, 0, none⟩ = some (.int .i64 5) := (B1.out.keep HKR.out).cell 0
      have xl := (B1.out.keep HKR.out).lt
      have COP := Lib.hid (open_any 32 #[.pointer (some ⟨gT, 0, none⟩)] fcA (fun _ => true) wr g n bs (wordsK cls) HS.out HBL.out (by have := HLN.out; omega) HWV.out fun w' k' j hj => by
        have h1 := fewCore1_any w' gT gi n ((List.range n).map (qF (openK cls) 0)) j true ((k'.cell tl).trans t0) (Nat.lt_of_lt_of_le tl k'.size) (HB0.out.fr (.of k')) (by simp) (by rw [List.getElem?_map, List.getElem?_range hj]; rfl) (by have := HLN.out; omega)
        exact h1)
      go_wp2_with fail
      refine COP.out.mono ?_
      rintro e w9 ⟨rfl, hk9⟩
      have HS9 := Lib.hid (HS.out.keep hk9)
      have HB9 : Hid (BoolsT w9 gi ((List.range n).map (qF (openK cls) 0))) := Lib.hid (HB0.out.fr (.of hk9))
      have HT9 : Hid (w9.heap[gT]? = some (.cells #[.slice (some ⟨gi, 0, none⟩) n n] TBs (0, 0))) := Lib.hid ((hk9.block gT tl fun _ h => h).trans HT.out)
      have HK9 := Lib.hid (HKR.out.both hk9)
      clear hk9 COP HS HB0 HT HKR x0 xl t0 tl
      have HO0 : Hid (openB (fun _ => true) (wordsK cls) = openK cls (fun _ => true)) := Lib.hid rfl
      rw [HO0.out]
      generalize openK cls (fun _ => true) = o0 at *
      have hB29 := (HK9.out.block (g1 + 1) (lt_of_heap B2.out) fun _ h => h).trans B2.out
      have HG29 := Lib.hid hB29
      cases o0 with
      | true =>
        have B29 : Blk w9 (g1 + 1) #[.int .i64 0, .int .i64 0] := ⟨_, hB29⟩
        have d0 : w9.cell? ⟨g1 + 1, 0, none⟩ = some (.int .i64 0) := B29.cell 0
        have d1 : w9.cell? ⟨g1 + 1, 1, none⟩ = some (.int .i64 0) := B29.cell 1
        have e0 := B29.free 0
        have e1 := B29.free 1
        have dl := B29.lt
        clear B29 hB29
        go_wp2
        refine bodyPost_ret (by simp [results, Tryz.results12, go_sem, d0, d1, dl]; rfl) rfl ?_
        rw [HR.out]
        have hg1 := HG1.out
        exact ⟨by rw [if_pos (by trivial)], keep2 (K2.out.both HK9.out) (by omega) _ _⟩
      | false =>
        clear hB29
        go_wp2
        go_loopw [9, 40] (fun v t wr => ∃ i : Nat, t = .int .i64 (i : Int) ∧ i ≤ n ∧ SetL wr g n bs (wordsK cls) ∧ BoolsT wr gi ((List.range n).map (qF (openK cls) i)) ∧ wr.heap[gT]? = some (.cells #[.slice (some ⟨gi, 0, none⟩) n n] TBs (0, 0)) ∧ OwnI wr w2.heap.size v ((lstQ (qF (openK cls) i) i).map Int.ofNat) ∧ Keep NoS w2 wr) (fun _ t _ => (n - intOf t).toNat)
        case atStart => exact ⟨0, rfl, by omega, HS9.out, HB9.out, HT9.out, OwnI.nil _ _, HK9.out⟩
        case round =>
          clear HS9 HB9 HT9 HK9 HG29
          obtain ⟨i, rfl, hi, hs, hb, ht, ho, hkr⟩ := hrel
          have HS := Lib.hid hs
          have HB := Lib.hid hb
          have HT := Lib.hid ht
          have HO := Lib.hid ho
          have HKR := Lib.hid hkr
          have t0 : wr.cell? ⟨gT, 0, none⟩ = some (.slice (some ⟨gi, 0, none⟩) n n) := cell_of_heap (o := 0) ht rfl
          have tl := lt_of_heap ht
          have hLs := lstQ_succ (openK cls) i
          generalize hL : (lstQ (qF (openK cls) i) i).map Int.ofNat = L at *
          have HL := Lib.hid hL
          have HLs := Lib.hid hLs
          obtain ⟨oo, co, rfl⟩ := ho.len
          clear hs hb ht hkr ho hL hLs
          by_cases hin : i < n
          case neg =>
            have hlt : ¬ (i : Int) < (n : Int) := by omega
            have hd : decide ((i : Int) < (n : Int)) = false := decide_eq_false hlt
            obtain rfl : i = n := by omega
            have hB29 := (HKR.out.block (g1 + 1) (lt_of_heap B2.out) fun _ h => h).trans B2.out
            have HG29 := Lib.hid hB29
            have B29 : Blk wr (g1 + 1) #[.int .i64 0, .int .i64 0] := ⟨_, hB29⟩
            have d0 : wr.cell? ⟨g1 + 1, 0, none⟩ = some (.int .i64 0) := B29.cell 0
            have d1 : wr.cell? ⟨g1 + 1, 1, none⟩ = some (.int .i64 0) := B29.cell 1
            have e0 := B29.free 0
            have e1 := B29.free 1
            have dl := B29.lt
            clear B29 hB29
            go_wp2
            refine bodyPost_ret (by simp [results, Tryz.results12, go_sem, d0, d1, dl]; rfl) rfl ?_
            rw [HR.out, if_neg (by simp)]
            have hg1 := HG1.out
            have hne : ∀ q, (Value.slice oo L.length co).ownBlock = some q → q ≠ g1 + 1 := fun q hq => by
              obtain ⟨A, hA⟩ := own_atT HO.out hq
              exact ty_ne' hA HG29.out (by decide)
            rw [HL.out]
            exact ⟨⟨_, rfl, World.ownsRow_set_other (World.ownsRow_set_other (World.ownsRow_mono HO.out (by have := K2.out.size; omega)) hne) hne⟩, keep2 (K2.out.both HKR.out) (by omega) _ _⟩
          case pos =>
            have hlt : (i : Int) < (n : Int) := by omega
            have hd : decide ((i : Int) < (n : Int)) = true := decide_eq_true hlt
            have HQ1 : Hid (qF (openK cls) (i + 1) = if openK cls (fun j => qF (openK cls) i j && j != i) then qF (openK cls) i else fun j => qF (openK cls) i j && j != i) := Lib.hid rfl
            have HQI := Lib.hid (qF_at (openK cls) i i (Nat.le_refl _))
            have HOK := Lib.hid (fun q => show openB q (wordsK cls) = openK cls q from rfl)
            generalize hq1 : qF (openK cls) (i + 1) = q1 at *
            have HQ1E := Lib.hid hq1
            clear hq1
            generalize qF (openK cls) i = q at *
            have HBF := Lib.hid (HB.out.setT i false (q' := fun j => q j && j != i) fun j hj => by
              by_cases e : j = i
              · subst e; simp
              · rw [if_neg e]; simp [e])
            generalize hq2 : (fun j => q j && j != i) = q2 at *
            have m0 : wr.cell? ⟨gi, i, none⟩ = some (.bool (q i)) := cell_of_heap (o := i) HB.out.1 (by simp [hin])
            have m1 : wr.frozen? ⟨gi, i, none⟩ = false := free_of_heap HB.out.1
            have ml := lt_of_heap HB.out.1
            have HSF : Hid (SetL (wr.setCell ⟨gi, i, none⟩ (.bool false)) g n bs (wordsK cls)) := Lib.hid (HS.out.st HB.out.1 (by decide) (by decide) _)
            have HTF : Hid ((wr.setCell ⟨gi, i, none⟩ (.bool false)).heap[gT]? = some (.cells #[.slice (some ⟨gi, 0, none⟩) n n] TBs (0, 0))) := Lib.hid ((heap_setCell_other _ ⟨gi, i, none⟩ _ gT (ty_ne' HT.out HB.out.1 (by decide))).trans HT.out)
            have HKF := Lib.hid (keep_at HKR.out (b := gi) (i := i) (.bool false) hgi)
            have HOF : Hid (OwnI (wr.setCell ⟨gi, i, none⟩ (.bool false)) w2.heap.size (.slice oo L.length co) L) := Lib.hid (World.ownsRow_set_other HO.out fun p hp => by
              obtain ⟨A, hA⟩ := own_atT HO.out hp
              exact ty_ne' hA HB.out.1 (by decide))
            have hlL : L.length ≤ 1000 := by
              have h1 := HL.out
              rw [← h1, List.length_map]
              have := List.length_filter_le q (List.range i)
              unfold lstQ
              rw [List.length_range] at this
              have := HLN.out
              omega
            clear HB
            go_upto_region 19 with fail
            clear m0 m1 ml t0 tl hd hlt
            generalize wr.setCell ⟨gi, i, none⟩ (.bool false) = wf at *
            have t0 : wf.cell? ⟨gT, 0, none⟩ = some (.slice (some ⟨gi, 0, none⟩) n n) := cell_of_heap (o := 0) HTF.out rfl
            have tl := lt_of_heap HTF.out
            have x0 : wf.cell? ⟨g1, 0, none⟩ = some (.int .i64 5) := (B1.out.keep HKF.out).cell 0
            have xl := (B1.out.keep HKF.out).lt
            have COP := Lib.hid (open_any 32 #[.pointer (some ⟨gT, 0, none⟩)] fcA q2 wf g n bs (wordsK cls) HSF.out HBL.out (by have := HLN.out; omega) HWV.out fun w' k' j hj => by
              have h1 := fewCore1_any w' gT gi n ((List.range n).map q2) j (q2 j) ((k'.cell tl).trans t0) (Nat.lt_of_lt_of_le tl k'.size) (HBF.out.fr (.of k')) (by simp) (by rw [List.getElem?_map, List.getElem?_range hj]; rfl) (by have := HLN.out; omega)
              exact h1)
            rw [HOK.out] at COP
            go_wp2_with fail
            refine COP.out.mono ?_
            rintro e w10 ⟨rfl, hk10⟩
            have HS10 := Lib.hid (HSF.out.keep hk10)
            have HB10 : Hid (BoolsT w10 gi ((List.range n).map q2)) := Lib.hid (HBF.out.fr (.of hk10))
            have HT10 : Hid (w10.heap[gT]? = some (.cells #[.slice (some ⟨gi, 0, none⟩) n n] TBs (0, 0))) := Lib.hid ((hk10.block gT tl fun _ h => h).trans HTF.out)
            have HK10 := Lib.hid (HKF.out.both hk10)
            have HO10 := Lib.hid (OwnI.keep HOF.out hk10)
            clear hk10 COP HSF HBF HTF HKF HOF x0 xl t0 tl HS HT HKR HO
            generalize openK cls q2 = oq at *
            cases oq with
            | false =>
              have HQE := Lib.hid (HQ1.out.trans (if_neg (by simp)))
              have HLN2 : Hid ((lstQ q1 (i + 1)).map Int.ofNat = L) := Lib.hid (by rw [HLs.out, List.map_append, HL.out]; simp)
              rw [HQE.out] at HLN2
              go_wp2
              go_roundw
              case rel => exact ⟨i + 1, by go_num, by omega, HS10.out, by rw [HQ1E.out, HQE.out]; exact HB10.out, HT10.out, by rw [HQ1E.out, HQE.out, HLN2.out]; exact HO10.out, HK10.out⟩
              case measure => simp [intOf]; omega
            | true =>
              have HQE := Lib.hid (HQ1.out.trans (if_pos (by trivial)))
              have HLN2 : Hid ((lstQ q1 (i + 1)).map Int.ofNat = L ++ [(i : Int)]) := Lib.hid (by rw [HLs.out, List.map_append, HL.out]; simp)
              rw [HQE.out] at HLN2
              have HBN := Lib.hid (HB10.out.setT i true (q' := q) fun j hj => by
                by_cases e : j = i
                · subst e; rw [if_pos rfl]; exact HQI.out
                · rw [if_neg e, ← hq2]; simp [e])
              have t0 : w10.cell? ⟨gT, 0, none⟩ = some (.slice (some ⟨gi, 0, none⟩) n n) := cell_of_heap (o := 0) HT10.out rfl
              have tl := lt_of_heap HT10.out
              have m0 : w10.cell? ⟨gi, i, none⟩ = some (.bool (q2 i)) := cell_of_heap (o := i) HB10.out.1 (by simp [hin])
              have m1 : w10.frozen? ⟨gi, i, none⟩ = false := free_of_heap HB10.out.1
              have ml := lt_of_heap HB10.out.1
              have HSN : Hid (SetL (w10.setCell ⟨gi, i, none⟩ (.bool true)) g n bs (wordsK cls)) := Lib.hid (HS10.out.st HB10.out.1 (by decide) (by decide) _)
              have HTN : Hid ((w10.setCell ⟨gi, i, none⟩ (.bool true)).heap[gT]? = some (.cells #[.slice (some ⟨gi, 0, none⟩) n n] TBs (0, 0))) := Lib.hid ((heap_setCell_other _ ⟨gi, i, none⟩ _ gT (ty_ne' HT10.out HB10.out.1 (by decide))).trans HT10.out)
              have HKN := Lib.hid (keep_at HK10.out (b := gi) (i := i) (.bool true) hgi)
              have HON : Hid (OwnI (w10.setCell ⟨gi, i, none⟩ (.bool true)) w2.heap.size (.slice oo L.length co) L) := Lib.hid (World.ownsRow_set_other HO10.out fun p hp => by
                obtain ⟨A, hA⟩ := own_atT HO10.out hp
                exact ty_ne' hA HB10.out.1 (by decide))
              clear HB10 HS10 HT10 HK10 HO10
              go_upto_region 21 with fail
              clear t0 tl m0 m1 ml
              generalize w10.setCell ⟨gi, i, none⟩ (.bool true) = w11 at *
              have KA : Keep NoS w11 (w11.alloc (.cells #[.int .i64 (i : Int)] TI)) := (Keep.refl _ _).alloc _
              obtain ⟨v13, w13, hr13, ho13, hg13, hv13⟩ := app_oneI (b := w11.heap.size) (x := (i : Int)) (OwnI.keep HON.out KA) (blk_at _ _ rfl) (by omega) (HKN.out.both KA).size
              have htI : ∀ p, (Value.slice oo L.length co).ownBlock = some p → ∃ A, (w11.alloc (.cells #[.int .i64 (i : Int)] TI)).heap[p]? = some (.cells A TI (0, 0)) := fun p hp => own_atT (OwnI.keep HON.out KA) hp
              have HFI : ∀ (k : Nat) (A : Array Value) (t : TypeId), w11.heap[k]? = some (.cells A t (0, 0)) → t ≠ TI → w13.heap[k]? = some (.cells A t (0, 0)) := fun k A t hk ht => by
                have h1 := (KA.block k (lt_of_heap hk) fun _ h => h).trans hk
                exact (hg13.block k (lt_of_heap h1) fun e => by obtain ⟨B, hB⟩ := htI k e.symm; exact ty_ne' hB h1 (fun h => ht h.symm) rfl).trans h1
              have HS13 : Hid (SetL w13 g n bs (wordsK cls)) := Lib.hid ⟨HFI g _ TUs HSN.out.h (by decide), HSN.out.len, HSN.out.le, HSN.out.nd, HSN.out.ng, fun j b v hb hv => HFI b _ TU (HSN.out.at' j b v hb hv) (by decide)⟩
              have HB13 : Hid (BoolsT w13 gi ((List.range n).map q)) := Lib.hid ⟨HFI gi _ TBo HBN.out.1 (by decide), HBN.out.2⟩
              have HT13 := Lib.hid (HFI gT _ TBs HTN.out (by decide))
              have HK13 : Hid (Keep NoS w2 w13) := Lib.hid ((HKN.out.both KA).grown hg13 fun p hp => OwnI.block HON.out p hp)
              have HO13 := Lib.hid ho13
              clear HFI htI KA ho13 hg13 hv13 HSN HBN HTN HKN HON
              go_wp2_with (at_builtin; refine wpList_app_run _ _ 22 _ _ rfl rfl rfl rfl hr13 ?_)
              go_roundw
              case rel => exact ⟨i + 1, by go_num, by omega, HS13.out, by rw [HQ1E.out, HQE.out]; exact HB13.out, HT13.out, by rw [HQ1E.out, HQE.out, HLN2.out]; exact HO13.out, HK13.out⟩
              case measure => simp [intOf]; omega
end Go.Proofs.YtnndmdfjdodiiaaGreat
