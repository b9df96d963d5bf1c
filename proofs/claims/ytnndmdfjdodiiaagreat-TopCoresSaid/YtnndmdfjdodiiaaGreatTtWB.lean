/- Package kit: clauses of raw numbers. Package kit: forms of clauses of raw numbers. Package all: assignments by number. -/
import Derived.Test.YtnndmdfjdodiiaaGreatTtVa
import Derived.Test.YtnndmdfjdodiiaaGreatTtTa
import Derived.Test.YtnndmdfjdodiiaaGreatTtSb
namespace Go.Proofs.YtnndmdfjdodiiaaGreat
open Go.ChangeShapes Go.WideShapes Go.RowKit Go.Maps
set_option linter.unusedVariables false
set_option linter.unusedSimpArgs false

theorem tdiv_64' {x k : Int} (hk : 2 ≤ k) (hx : I64 x) : I64 (x.tdiv k) := by
  unfold I64 at *
  have h : (x.tdiv k).natAbs = x.natAbs / k.natAbs := Int.natAbs_tdiv x k
  have : x.natAbs / k.natAbs ≤ x.natAbs / 2 := Nat.div_le_div_left (by omega) (by omega)
  omega
theorem kvar_any (w : World) (x : Int) (h1 : I64 x) (h2 : I64 (-x)) : Calls Tryz.prog 63 #[.int .i64 x] w fun e w' => e = .returned (.int .i64 (x.natAbs : Int)) ∧ w' = w := by
  unfold I64 at h1 h2
  by_cases hx : x < 0
  · have hd : decide (x < 0) = true := decide_eq_true hx
    have e1 : (x.natAbs : Int) = -x := by omega
    rw [e1]
    go_enter Tryz.func63, Tryz.ntmps63
    go_wp2
    go_ret
    exact ⟨rfl, rfl⟩
  · have hd : decide (x < 0) = false := decide_eq_false hx
    have e1 : (x.natAbs : Int) = x := by omega
    rw [e1]
    go_enter Tryz.func63, Tryz.ntmps63
    go_wp2
    go_ret
    exact ⟨rfl, rfl⟩
theorem ValidC.push {n : Nat} {c : List Int} (h : ValidC n c) {x : Int} (h0 : x ≠ 0) (hx : x.natAbs ≤ n) (hc : ∀ y ∈ c, y.natAbs ≠ x.natAbs) : ValidC n (c ++ [x]) := by
  refine ⟨?_, fun l hl => ?_⟩
  · rw [List.map_append, List.nodup_append]
    refine ⟨h.1, by simp, fun a ha b hb e => ?_⟩
    obtain ⟨y, hy, rfl⟩ := List.mem_map.1 ha
    simp at hb
    exact hc y hy (e.trans hb)
  · rcases List.mem_append.1 hl with hl | hl
    · exact h.2 l hl
    · obtain rfl := List.mem_singleton.1 hl
      exact ⟨h0, hx⟩
theorem ValidC.swap {n : Nat} {l : List Int} (h : ValidC n l) (hl : l.length ≤ 3) {m : Nat} (hm : m + 1 < l.length) : ValidC n ((l.set (m + 1) l[m]).set m l[m + 1]) := by
  rcases l with _ | ⟨a, _ | ⟨b, _ | ⟨c, _ | ⟨d, l⟩⟩⟩⟩
  · simp at hm
  · simp at hm
  · obtain rfl : m = 0 := by simp at hm; omega
    simp only [ValidC, List.map_cons, List.map_nil, List.nodup_cons, List.mem_cons, List.not_mem_nil, or_false, List.set_cons_succ, List.set_cons_zero, List.getElem_cons_succ, List.getElem_cons_zero, forall_eq_or_imp, forall_eq, not_false_eq_true, List.nodup_nil, and_true] at h ⊢
    exact ⟨fun e => h.1 e.symm, h.2.2, h.2.1⟩
  · have hm2 : m = 0 ∨ m = 1 := by simp at hm; omega
    rcases hm2 with rfl | rfl <;>
    simp only [ValidC, List.map_cons, List.map_nil, List.nodup_cons, List.mem_cons, List.not_mem_nil, or_false, List.set_cons_succ, List.set_cons_zero, List.getElem_cons_succ, List.getElem_cons_zero, forall_eq_or_imp, forall_eq, not_false_eq_true, List.nodup_nil, and_true, not_or] at h ⊢ <;> grind
  · simp at hl
theorem valid_64 {c : List Int} (h : ValidC 5 c) : ∀ x ∈ c, I64 x := fun x hx => by have := (h.2 x hx).2; unfold I64; omega
def hadP (c : List Int) (v : Int) : Bool := c.any fun y => y == v || y == -v
theorem hadP_no {c : List Int} {v : Int} (h : hadP c v = false) : ∀ y ∈ c, y.natAbs ≠ v.natAbs := fun y hy e => by
  unfold hadP at h
  rw [List.any_eq_false] at h
  have := h y hy
  simp at this
  omega
theorem hadP_step {c : List Int} {v : Int} {i : Nat} (hi : i < c.length) : hadP (c.take (i + 1)) v = (hadP (c.take i) v || (c[i] == v || c[i] == -v)) := by
  unfold hadP
  rw [List.take_succ_eq_append_getElem hi, List.any_append]
  simp
set_option maxRecDepth 100000 in
set_option maxHeartbeats 16000000 in
theorem clauseOf_any (w : World) (x : Int) (hx : I64 x) : Calls Tryz.prog 29 #[.int .i64 x, .int .i64 5] w fun e w' => ∃ v' c, e = .returned v' ∧ OwnI w' w.heap.size v' c ∧ ValidC 5 c ∧ c.length ≤ 3 ∧ Keep NoS w w' := by
  have CP := fun w' x n h1 h2 h3 => Lib.hid (picked_any w' x n h1 h2 h3)
  go_enter Tryz.func29, Tryz.ntmps29
  go_wp2_with fail
  go_loopw [0, 5, 6] (fun a v t wr => ∃ (x : Int) (c : List Int) (k : Nat), a = .int .i64 x ∧ t = .int .i64 (k : Int) ∧ I64 x ∧ k ≤ 3 ∧ OwnI wr w.heap.size v c ∧ ValidC 5 c ∧ c.length ≤ k ∧ Keep NoS w wr) (fun _ _ t _ => (3 - intOf t).toNat)
  case atStart => exact ⟨x, [], 0, rfl, rfl, hx, by omega, OwnI.nil _ _, ⟨by simp, by simp⟩, by simp, Keep.refl _ _⟩
  case round =>
    clear hx
    obtain ⟨x, c, k, rfl, rfl, hx, hk, ho, hc, hl, hkr⟩ := hrel
    have HO := Lib.hid ho
    have HC := Lib.hid hc
    have HKR := Lib.hid hkr
    have HL := Lib.hid hl
    have HX := Lib.hid hx
    have HX3 := Lib.hid (tdiv_64' (x := x) (k := 3) (by omega) hx)
    have HX15 := Lib.hid (tdiv_64' (x := x.tdiv 3) (k := 5) (by omega) HX3.out)
    have hw3 := IntWalk.i64_in _ HX3.out
    have hw5 := IntWalk.i64_in _ HX15.out
    obtain ⟨oc, cc, rfl⟩ := ho.len
    clear ho hc hkr hl
    go_wp2_with fail
    refine (CP _ x 3 HX.out (by omega) (by omega)).out.mono ?_
    rintro e w1 ⟨r, hr1, hr2, rfl, hw⟩
    subst hw
    by_cases hkk : (k : Int) ≤ r
    case neg =>
      have hd : decide ((k : Int) ≤ r) = false := decide_eq_false hkk
      have hn3 : c.length ≤ 3 := by have := HL.out; omega
      generalize hn : c.length = n at *
      have HNN := Lib.hid hn
      have HN3 := Lib.hid hn3
      clear hn HL hkk hr1 hr2
      go_wp2
      go_loopw [10] (fun t wr => ∃ (cur : List Int) (i : Nat), t = .int .i64 (i : Int) ∧ 1 ≤ i ∧ i ≤ n + 1 ∧ cur.length = n ∧ OwnI wr w.heap.size (.slice oc n cc) cur ∧ ValidC 5 cur ∧ Keep NoS w wr) (fun t _ => (n + 1 - intOf t).toNat)
      case atStart => exact ⟨c, 1, rfl, by omega, by omega, HNN.out, HO.out, HC.out, HKR.out⟩
      case round =>
        clear HO HC HKR
        obtain ⟨cur, i, rfl, hi1, hi2, hcl, ho, hc, hkr⟩ := hrel
        have HO := Lib.hid ho
        have HC := Lib.hid hc
        have HKR := Lib.hid hkr
        have HCL := Lib.hid hcl
        clear ho hc hkr hcl
        by_cases hil : i < n
        case neg =>
          have hlt : ¬ (i : Int) < (n : Int) := by omega
          have hd2 : decide ((i : Int) < (n : Int)) = false := decide_eq_false hlt
          go_wp2
          refine bodyPost_ret (by simp [results, Tryz.results29, go_sem]; rfl) rfl ?_
          exact ⟨_, rfl, cur, HO.out, HC.out, by rw [HCL.out]; exact HN3.out, HKR.out⟩
        case pos =>
          have hlt : (i : Int) < (n : Int) := by omega
          have hd2 : decide ((i : Int) < (n : Int)) = true := decide_eq_true hlt
          obtain ⟨g, hg⟩ : ∃ g, oc = some ⟨g, 0, none⟩ := by
            obtain ⟨hl, h | ⟨g, cap, cur', hv, hb, hg, hl', hm, hs, ht⟩⟩ := HO.out
            · have := h.2; have := HCL.out; omega
            · injection hv with q1 q2 q3
              exact ⟨g, q1⟩
          subst hg
          go_wp2
          go_loopw [11] (fun t wr => ∃ (cur : List Int) (j : Nat), t = .int .i64 (j : Int) ∧ j ≤ i ∧ cur.length = n ∧ OwnI wr w.heap.size (.slice (some ⟨g, 0, none⟩) n cc) cur ∧ ValidC 5 cur ∧ Keep NoS w wr) (fun t _ => (intOf t).toNat)
          case atStart => exact ⟨cur, i, rfl, by omega, HCL.out, HO.out, HC.out, HKR.out⟩
          case round =>
            clear HO HC HKR HCL
            obtain ⟨cur, j, rfl, hji, hcl, ho, hc, hkr⟩ := hrel
            have HO := Lib.hid ho
            have HC := Lib.hid hc
            have HKR := Lib.hid hkr
            have HCL := Lib.hid hcl
            rcases Nat.eq_zero_or_pos j with hj0 | hjp
            · subst hj0
              clear ho hc hkr hcl
              go_upto_region 21 with fail
              refine wp_region_by (fun w' => Keep NoS wr w') [] [([0, 1, 2, 3, 4, 5, 6, 8, 9, 10, 11, 12], 7), ([], 13)] [14, 15] (by kernel_rfl) (by kernel_rfl) (Keep.refl _ _).drew ?_
              intro X W hne hF hcl
              have HCL2 := Lib.hid hcl
              clear hF hcl
              simp only [wpPlan, pickOps, List.getElem?_toArray, List.getElem?_cons_zero, List.getElem?_cons_succ, clsOf, Bool.false_eq_true, if_false]
              (repeat (go_big_quiet_step (fail))); refine wpQuiet_nil ?_
              refine wpOp_unwanted (by simp only [List.getElem?_toArray, List.getElem?_cons_zero, List.getElem?_cons_succ]; rfl) (by rfl) ?_
              simp only [Act.put, List.setIfInBounds_toArray, List.set_cons_zero, List.set_cons_succ]
              refine ⟨fun _ => HCL2.out _ (Keep.refl NoS wr).drew, ?_⟩
              (repeat (go_big_quiet_step (fail))); refine wpQuiet_nil ?_
              refine wpOp_unwanted (by simp only [List.getElem?_toArray, List.getElem?_cons_zero, List.getElem?_cons_succ]; rfl) (by rfl) ?_
              simp only [Act.put, List.setIfInBounds_toArray, List.set_cons_zero, List.set_cons_succ]
              refine ⟨fun _ => HCL2.out _ (Keep.refl NoS wr).drew, ?_⟩
              (repeat (go_big_quiet_step (fail))); refine wpQuiet_nil ?_
              refine NoPanic.normal ?_
              have HOd := Lib.hid (OwnI.keep HO.out (Keep.refl NoS wr).drew)
              have HKd := Lib.hid HKR.out.drew
              clear HCL2
              go_wp2
              go_roundw
              case rel => exact ⟨cur, i + 1, by go_num, by omega, by omega, HCL.out, HOd.out, HC.out, HKd.out⟩
              case measure => simp [intOf]; omega
            · obtain ⟨m, rfl⟩ : ∃ m, j = m + 1 := ⟨j - 1, by omega⟩
              have hm1 : m + 1 < cur.length := by omega
              have hm0 : m < cur.length := by omega
              obtain ⟨p1, f1, gl, -, -, -⟩ := ho.cellV hm1
              obtain ⟨p0, f0, -, -, -, -⟩ := ho.cellV hm0
              have h64 := valid_64 hc
              have hb1 := hc.2 _ (List.getElem_mem hm1)
              have hb0 := hc.2 _ (List.getElem_mem hm0)
              have C1 := fun w' => Lib.hid (kvar_any w' cur[m + 1] (by unfold I64; omega) (by unfold I64; omega))
              have C0 := fun w' => Lib.hid (kvar_any w' cur[m] (by unfold I64; omega) (by unfold I64; omega))
              have HSW := Lib.hid (hc.swap (by rw [hcl]; exact HN3.out) hm1)
              have hown := fun w' (k : Keep NoS wr w') => OwnI.setV (OwnI.setV (ho.keep k) hm1 cur[m]) (i := m) (by rw [List.length_set]; exact hm0) cur[m + 1]
              have HOW := Lib.hid hown
              have hbb := OwnI.block ho g rfl
              clear ho hc hkr hcl h64 hb1 hb0 hown
              have HLS : Hid (((cur.set (m + 1) cur[m]).set m cur[m + 1]).length = n) := Lib.hid (by rw [List.length_set, List.length_set]; exact HCL.out)
              generalize hy1 : cur[m + 1] = y1 at *
              generalize hy0 : cur[m] = y0 at *
              clear hy1 hy0 hm1 hm0
              have hg0 : decide ((0 : Int) < (m : Int) + 1) = true := decide_eq_true (by omega)
              have hg1 : decide ((0 : Int) < ((m + 1 : Nat) : Int)) = true := decide_eq_true (by omega)
              have hg2 : (0 : Int) < (m : Int) + 1 := by omega
              have hg3 : (0 : Int) < ((m + 1 : Nat) : Int) := by omega
              have e5 : ((m + 1 : Nat) : Int) - 1 = (m : Int) := by omega
              have e6 : (m : Int) + 1 - 1 = (m : Int) := by omega
              have hmn1 : (m : Int) + 1 < (n : Int) := by omega
              have hmn2 : ((m + 1 : Nat) : Int) < (n : Int) := by omega
              have hmn0 : (m : Int) < (n : Int) := by omega
              go_upto_region 21 with fail
              refine wp_region_by (fun w' => Keep NoS wr w') [] [([0, 1, 2, 3, 4, 5, 6, 8, 9, 10, 11, 12], 7), ([], 13)] [14, 15] (by kernel_rfl) (by kernel_rfl) (Keep.refl _ _).drew ?_
              intro X W hne hF hcl
              have HCL2 := Lib.hid hcl
              have z1 := fun x => ((hF x).cell gl).trans p1
              have z0 := fun x => ((hF x).cell gl).trans p0
              have zl := fun x => Nat.lt_of_lt_of_le gl (hF x).size
              clear hF hcl
              simp only [wpPlan, pickOps, List.getElem?_toArray, List.getElem?_cons_zero, List.getElem?_cons_succ, clsOf, Bool.false_eq_true, if_false]
              (repeat (go_big_quiet_step (fail))); refine wpQuiet_nil ?_
              refine wpWa rfl rfl fun K hK => ?_
              go_simp
              refine (C1 _).out.mono ?_
              rintro e w7 ⟨rfl, hw7⟩
              subst hw7
              refine hK _ _ ⟨fun _ => HCL2.out _ (Keep.refl NoS wr).drew, ?_⟩
              clear hK K
              (repeat (go_big_quiet_step (fail))); refine wpQuiet_nil ?_
              refine wpWa rfl rfl fun K hK => ?_
              go_simp
              refine (C0 _).out.mono ?_
              rintro e w8 ⟨rfl, hw8⟩
              subst hw8
              refine hK _ _ ⟨fun _ => HCL2.out _ (Keep.refl NoS wr).drew, ?_⟩
              clear hK K
              (repeat (go_big_quiet_step (fail))); refine wpQuiet_nil ?_
              refine NoPanic.normal ?_
              have HKd := Lib.hid HKR.out.drew
              have HOd := Lib.hid (OwnI.keep HO.out (Keep.refl NoS wr).drew)
              have HOW := Lib.hid (HOW.out _ (Keep.refl NoS wr).drew)
              have p1 : wr.drew.cell? ⟨g, m + 1, none⟩ = some (.int .i64 y1) := p1
              have p0 : wr.drew.cell? ⟨g, m, none⟩ = some (.int .i64 y0) := p0
              have f1 : wr.drew.frozen? ⟨g, m + 1, none⟩ = false := f1
              have f0 : wr.drew.frozen? ⟨g, m, none⟩ = false := f0
              have gl : g < wr.drew.heap.size := gl
              generalize wr.drew = w9 at *
              clear HCL2 z1 z0 zl C1 C0
              by_cases hlv : (y1.natAbs : Int) < (y0.natAbs : Int)
              case neg =>
                have e1 : decide ((y1.natAbs : Int) < (y0.natAbs : Int)) = false := decide_eq_false hlv
                go_wp2
                go_roundw
                case rel => exact ⟨cur, i + 1, by go_num, by omega, by omega, HCL.out, HOd.out, HC.out, HKd.out⟩
                case measure => simp [intOf]; omega
              case pos =>
                have e1 : decide ((y1.natAbs : Int) < (y0.natAbs : Int)) = true := decide_eq_true hlv
                have hm1 : m + 1 < cur.length := by rw [HCL.out]; omega
                have hm0 : m < (cur.set (m + 1) y0).length := by rw [List.length_set, HCL.out]; omega
                have HO1 := OwnI.setV HOd.out hm1 y0
                obtain ⟨⟨zz, s0⟩, t0, sl⟩ : (∃ zz : Int, (w9.setCell ⟨g, m + 1, none⟩ (.int .i64 y0)).cell? ⟨g, m, none⟩ = some (.int .i64 zz)) ∧ (w9.setCell ⟨g, m + 1, none⟩ (.int .i64 y0)).frozen? ⟨g, m, none⟩ = false ∧ g < (w9.setCell ⟨g, m + 1, none⟩ (.int .i64 y0)).heap.size := by
                  obtain ⟨s0, t0, sl, -, -, -⟩ := HO1.cellV hm0
                  exact ⟨⟨_, s0⟩, t0, sl⟩
                have HKE : Hid (Keep NoS w ((w9.drew.setCell ⟨g, m + 1, none⟩ (.int .i64 y0)).setCell ⟨g, m, none⟩ (.int .i64 y1))) := Lib.hid (keep_at (keep_at HKd.out.drew _ hbb) _ hbb)
                have HOE : Hid (OwnI ((w9.drew.setCell ⟨g, m + 1, none⟩ (.int .i64 y0)).setCell ⟨g, m, none⟩ (.int .i64 y1)) w.heap.size (.slice (some ⟨g, 0, none⟩) n cc) ((cur.set (m + 1) y0).set m y1)) := Lib.hid (OwnI.setV (OwnI.setV (OwnI.keep HOd.out (Keep.refl NoS w9).drew) hm1 y0) hm0 y1)
                clear hm1 hm0 HO1 HOW
                go_upto_region 23 with fail
                refine wp_region_two (fun w' => w'.cell? ⟨g, m + 1, none⟩ = some (.int .i64 y1) ∧ w'.cell? ⟨g, m, none⟩ = some (.int .i64 y0) ∧ g < w'.heap.size) (fun _ => True) [0, 1, 2, 3, 4, 5, 6, 7, 8, 10, 11, 12, 15, 16, 17] [([0, 1, 2, 3, 4, 5, 6, 7, 8, 10, 11, 12], [9, 13, 14], 15), ([16], [], 17)] ([], []) (by kernel_rfl) (by kernel_rfl) (fun _ _ => trivial) ⟨p1, p0, gl⟩ ?_
                intro X Y W V hne1 hne2 hF hcl hG hgg
                have hx1 := fun x => (hF x).1
                have hx2 := fun x => (hF x).2.1
                have hx3 := fun x => (hF x).2.2
                have HG := Lib.hid hgg
                clear hF hcl hG hgg
                simp only [wpPlanD, pickOps, List.getElem?_toArray, List.getElem?_cons_zero, List.getElem?_cons_succ, Bool.false_eq_true, if_false]
                (repeat (go_big_quiet_step (fail))); refine wpQuiet_nil ?_
                (repeat (go_big_quiet_step (fail))); refine wpQuiet_nil ?_
                refine wpWa rfl rfl fun K hK => ?_
                go_simp
                refine hK _ _ ⟨⟨fun h => (by simp at h), HG.out _ trivial⟩, ?_⟩
                clear hK K
                (repeat (go_big_quiet_step (fail))); refine wpQuiet_nil ?_
                (repeat (go_big_quiet_step (fail))); refine wpQuiet_nil ?_
                refine wpWa rfl rfl fun K hK => ?_
                go_simp
                refine hK _ _ ⟨⟨fun h => (by simp at h), HG.out _ trivial⟩, ?_⟩
                clear hK K
                repeat (refine wpQuiet_nil ?_)
                refine NoPanic.normal ?_
                clear s0 t0 sl p1 p0 f1 f0 gl
                go_wp2
                go_roundw
                case rel => exact ⟨_, m, by go_num, by omega, HLS.out, HOE.out, HSW.out, HKE.out⟩
                case measure => simp [intOf]
    case pos =>
      have hd : decide ((k : Int) ≤ r) = true := decide_eq_true hkk
      go_wp2_with fail
      refine (CP _ (x.tdiv 3) 5 HX3.out (by omega) (by omega)).out.mono ?_
      rintro e w1 ⟨v, hv1, hv2, rfl, hw⟩
      subst hw
      go_wp2_with fail
      have hV1 : 1 ≤ 1 + v := by omega
      have hV2 : 1 + v ≤ 5 := by omega
      generalize 1 + v = V at *
      have hk2 : k ≤ 2 := by omega
      clear hv1 hv2 hd hr1 hr2
      go_loopw [8, 9] (fun a t wr => ∃ i : Nat, i ≤ c.length ∧ t = .int .i64 (i : Int) ∧ a = .bool (hadP (c.take i) V) ∧ wr = w1) (fun _ t _ => (c.length - intOf t).toNat)
      case atStart => exact ⟨0, by omega, rfl, rfl, rfl⟩
      case round =>
        obtain ⟨i, hi, rfl, rfl, hw⟩ := hrel
        have hw : w1 = wr := hw.symm
        subst hw
        by_cases hil : i < c.length
        case pos =>
          have hlt : (i : Int) < (c.length : Int) := by omega
          have hcl := HL.out
          obtain ⟨b0, o0, c0, e0, hb0, p0⟩ := (HO.out.ints (valid_64 HC.out)).at hil
          injection e0 with q1 q2 q3
          subst q1
          clear q2 q3
          have HST := Lib.hid (hadP_step (v := V) hil)
          generalize hadP (c.take i) V = hb at *
          generalize c[i] = y at *
          cases hb with
          | true =>
            go_wp2
            go_roundw
            case rel => exact ⟨i + 1, by omega, by go_num, by rw [HST.out]; simp, trivial⟩
            case measure => simp [intOf]; omega
          | false =>
            by_cases hy : y = V
            · subst hy
              go_wp2
              go_roundw
              case rel => exact ⟨i + 1, by omega, by go_num, by rw [HST.out]; simp, trivial⟩
              case measure => simp [intOf]; omega
            · have e1 : (y == V) = false := by rw [beq_eq_false_iff_ne]; exact hy
              go_wp2
              go_roundw
              case rel => exact ⟨i + 1, by omega, by go_num, by rw [HST.out]; simp [e1], trivial⟩
              case measure => simp [intOf]; omega
        case neg =>
          have hlt : ¬ (i : Int) < (c.length : Int) := by omega
          have ht : c.take i = c := List.take_of_length_le (by omega)
          rw [ht]
          clear ht
          rcases hb : hadP c V with _ | _
          case true =>
            clear hb
            go_wp2
            go_roundw
            case rel => exact ⟨_, c, k + 1, rfl, by go_num, HX15.out, by omega, HO.out, HC.out, Nat.le_succ_of_le HL.out, HKR.out⟩
            case measure => simp [intOf]; omega
          case false =>
            have HNE : Hid (∀ y ∈ c, y.natAbs ≠ V.natAbs) := Lib.hid (hadP_no hb)
            have HLc := HL.out
            have hal : ∀ z : Int, ∃ v' w', (Builtin.append_ #[22, 22] 22 #[.slice oc c.length cc, .slice (some ⟨w1.heap.size, 0, none⟩) 1 1]).run Tryz.prog (w1.alloc (.cells #[.int .i64 z] TI)) = .ok v' w' ∧ OwnI w' w.heap.size v' (c ++ [z]) ∧ Keep NoS w w' := fun z => by
              obtain ⟨v', w', hr, ho, hg, hv⟩ := app_oneI (OwnI.keep HO.out ((Keep.refl NoS w1).alloc (.cells #[.int .i64 z] TI))) (b := w1.heap.size) (x := z) (blk_at _ _ rfl) (by omega) (HKR.out.alloc _).size
              exact ⟨v', w', hr, ho, (HKR.out.alloc _).grown hg fun q hq => OwnI.block HO.out q hq⟩
            have hVn : V.natAbs ≤ 5 := by omega
            have HP1 : Hid (ValidC 5 (c ++ [V])) := Lib.hid (HC.out.push (by omega) hVn HNE.out)
            have HP2 : Hid (ValidC 5 (c ++ [-V])) := Lib.hid (HC.out.push (by omega) (by rw [Int.natAbs_neg]; exact hVn) (by rw [Int.natAbs_neg]; exact HNE.out))
            clear hb
            by_cases hz : ((x.tdiv 3).tdiv 5).tmod 2 = 0
            · obtain ⟨v3, w3, hr3, ho3, hk3⟩ := hal V
              have HO3 := Lib.hid ho3
              have HK3 := Lib.hid hk3
              have e2 : (((x.tdiv 3).tdiv 5).tmod 2 != 0) = false := by rw [hz]; rfl
              clear hal ho3 hk3 hz
              go_wp2_with (at_builtin; refine wpList_app_run _ _ 22 _ _ rfl rfl rfl rfl hr3 ?_)
              go_roundw
              case rel => exact ⟨_, _, k + 1, rfl, by go_num, HX15.out, by omega, HO3.out, HP1.out, by simp; omega, HK3.out⟩
              case measure => simp [intOf]; omega
            · obtain ⟨v3, w3, hr3, ho3, hk3⟩ := hal (-V)
              have HO3 := Lib.hid ho3
              have HK3 := Lib.hid hk3
              have e2 : (((x.tdiv 3).tdiv 5).tmod 2 != 0) = true := by rw [bne_iff_ne]; exact hz
              clear hal ho3 hk3 hz
              go_wp2_with (at_builtin; refine wpList_app_run _ _ 22 _ _ rfl rfl rfl rfl hr3 ?_)
              go_roundw
              case rel => exact ⟨_, _, k + 1, rfl, by go_num, HX15.out, by omega, HO3.out, HP2.out, by simp; omega, HK3.out⟩
              case measure => simp [intOf]; omega
end Go.Proofs.YtnndmdfjdodiiaaGreat

namespace Go.Proofs.YtnndmdfjdodiiaaGreat
open Go.ChangeShapes Go.WideShapes Go.RowKit Go.Maps
set_option linter.unusedVariables false
set_option linter.unusedSimpArgs false

set_option maxRecDepth 100000 in
set_option maxHeartbeats 16000000 in
theorem cnfOf_any (w : World) (vr : Value) (raw : List Int) (hr : IsInts w vr raw) : Calls Tryz.prog 11 #[vr, .int .i64 5, .int .i64 10] w fun e w' => ∃ (o : Option Addr) (c : Nat) (cls : List (List Int)), e = .returned (.agg #[.int .i64 5, .slice o cls.length c]) ∧ IsCls w' (.slice o cls.length c) cls ∧ (∀ c ∈ cls, ValidC 5 c) ∧ cls.length ≤ 10 ∧ Keep NoS w w' := by
  have HR := Lib.hid hr
  obtain ⟨ro, rc, rfl, hml⟩ := hr.len
  unfold maxLen at hml
  obtain ⟨w2, hw2⟩ : ∃ w2 : World, w2 = (w.alloc (.cells #[.int .i64 0, .slice none 0 0] TCn)).alloc (.cells #[.int .i64 5, .slice none 0 0] TCn) := ⟨_, rfl⟩
  have K2 : Hid (Keep NoS w w2) := Lib.hid (by rw [hw2]; exact ((Keep.refl _ _).alloc _).alloc _)
  have B6 : Hid (w2.heap[w.heap.size]? = some (.cells #[.int .i64 0, .slice none 0 0] TCn (0, 0))) := Lib.hid (by rw [hw2, heap_alloc_old _ _ _ (by simp)]; exact heap_alloc_at _ _ _ rfl)
  have B7 : Hid (w2.heap[w.heap.size + 1]? = some (.cells #[.int .i64 5, .slice none 0 0] TCn (0, 0))) := Lib.hid (by rw [hw2]; exact heap_alloc_at _ _ _ (by simp))
  clear hr
  go_enter Tryz.func11, Tryz.ntmps11
  go_upto_region 2 with fail
  rw [← hw2]
  clear hw2
  generalize hg6 : w.heap.size = g6 at *
  have HG6 := Lib.hid hg6
  clear hg6
  go_wp2
  go_loopw [8] (fun t wr => ∃ (i : Nat) (cls : List (List Int)) (v : Value), t = .int .i64 (i : Int) ∧ i ≤ 10 ∧ cls.length = i ∧ Keep NoS w wr ∧ wr.heap[g6]? = some (.cells #[.int .i64 0, .slice none 0 0] TCn (0, 0)) ∧ wr.heap[g6 + 1]? = some (.cells #[.int .i64 5, v] TCn (0, 0)) ∧ ClsT wr g6 v cls ∧ ∀ c ∈ cls, ValidC 5 c) (fun t _ => (10 - intOf t).toNat)
  case atStart => exact ⟨0, [], _, rfl, by omega, rfl, K2.out, B6.out, B7.out, ClsT.nil _ _, by simp⟩
  case round =>
    obtain ⟨i, cls, v, rfl, hi, hcl, hkr, h6, h7, hcv, hval⟩ := hrel
    have HKR := Lib.hid hkr
    have H6 := Lib.hid h6
    have H7 := Lib.hid h7
    have HCV := Lib.hid hcv
    have HVAL := Lib.hid hval
    have HCL := Lib.hid hcl
    obtain ⟨ov, cv, hv, hcv1, hcv2⟩ := hcv.form
    rw [hcl] at hv
    subst hv
    have b7 : Blk wr (g6 + 1) #[.int .i64 5, .slice ov i cv] := ⟨_, h7⟩
    have y0 : wr.cell? ⟨g6 + 1, 0, none⟩ = some (.int .i64 5) := b7.cell 0
    have y1 : wr.cell? ⟨g6 + 1, 1, none⟩ = some (.slice ov i cv) := b7.cell 1
    have yl := b7.lt
    have f1 := b7.free 1
    clear hkr hcv hval hcl h6 hcv1 hcv2 b7
    by_cases hlen : i < raw.length
    case neg =>
      have hlt : ¬ (i : Int) < (raw.length : Int) := by omega
      have b6 : Blk wr g6 #[.int .i64 0, .slice none 0 0] := ⟨_, H6.out⟩
      have x0 : wr.cell? ⟨g6, 0, none⟩ = some (.int .i64 0) := b6.cell 0
      have x1 : wr.cell? ⟨g6, 1, none⟩ = some (.slice none 0 0) := b6.cell 1
      have f0' := b6.free 0
      have f1' := b6.free 1
      have xl := b6.lt
      clear b6
      go_wp2
      refine bodyPost_ret (by simp [results, Tryz.results11, go_sem, x0, x1, xl]; rfl) rfl ?_
      have q2 := set2_B (w := wr) (b := g6) (t := TCn) ⟨_, H6.out⟩ ⟨by decide, by decide⟩ (.int .i64 5) (.slice ov i cv)
      have hc9 := (HCV.out.fr q2.fr fun j hj => q2.other j (HCV.out.neT ⟨_, H6.out⟩ (by decide) j hj)).cls
      have hg6 := HG6.out
      refine ⟨ov, cv, cls, by rw [HCL.out], by rw [HCL.out]; exact hc9, HVAL.out, by rw [HCL.out]; exact hi, keep2 HKR.out (by omega) _ _⟩
    case pos =>
      have hlt : (i : Int) < (raw.length : Int) := by omega
      by_cases hi10 : i < 10
      case neg =>
        have hlt2 : ¬ (i : Int) < 10 := by omega
        have b6 : Blk wr g6 #[.int .i64 0, .slice none 0 0] := ⟨_, H6.out⟩
        have x0 : wr.cell? ⟨g6, 0, none⟩ = some (.int .i64 0) := b6.cell 0
        have x1 : wr.cell? ⟨g6, 1, none⟩ = some (.slice none 0 0) := b6.cell 1
        have f0' := b6.free 0
        have f1' := b6.free 1
        have xl := b6.lt
        clear b6
        go_wp2
        refine bodyPost_ret (by simp [results, Tryz.results11, go_sem, x0, x1, xl]; rfl) rfl ?_
        have q2 := set2_B (w := wr) (b := g6) (t := TCn) ⟨_, H6.out⟩ ⟨by decide, by decide⟩ (.int .i64 5) (.slice ov i cv)
        have hc9 := (HCV.out.fr q2.fr fun j hj => q2.other j (HCV.out.neT ⟨_, H6.out⟩ (by decide) j hj)).cls
        have hg6 := HG6.out
        refine ⟨ov, cv, cls, by rw [HCL.out], by rw [HCL.out]; exact hc9, HVAL.out, by rw [HCL.out]; exact hi, keep2 HKR.out (by omega) _ _⟩
      case pos =>
        have hlt2 : (i : Int) < 10 := by omega
        obtain ⟨b0, o0, c0, e0, hb0, p0⟩ := (HR.out.keep HKR.out).at hlen
        injection e0 with q1 q2 q3
        subst q1
        clear q2 q3
        have hx64 := HR.out.all _ (List.getElem_mem hlen)
        generalize raw[i] = x at *
        have CC := fun w' => Lib.hid (clauseOf_any w' x hx64)
        have h7' := H7.out
        clear hx64
        go_upto_region 5 with fail
        refine wp_region_by (fun w' => Keep NoS wr w') [9, 10, 11] [([0, 1, 2, 3, 4, 5, 6], 7), ([], 8), ([], 9), ([10], 11)] [] (by kernel_rfl) (by kernel_rfl) (Keep.refl _ _).drew ?_
        intro X W hne hF hcl
        have HCL2 := Lib.hid hcl
        have z1 := fun x => ((hF x).cell yl).trans y1
        have z2 := fun x => ((hF x).cell hb0).trans p0
        have zl := fun x => Nat.lt_of_lt_of_le yl (hF x).size
        have zm := fun x => Nat.lt_of_lt_of_le hb0 (hF x).size
        clear hF hcl
        simp only [wpPlan, pickOps, List.getElem?_toArray, List.getElem?_cons_zero, List.getElem?_cons_succ, clsOf, Bool.false_eq_true, if_false]
        (repeat (quiet_step (fail))); refine wpQuiet_nil ?_
        refine wpAt rfl rfl fun K hK => ?_
        go_simp
        refine (CC _).out.mono ?_
        rintro e w8 ⟨v8, c, rfl, ho8, hvc, hlc, hk8⟩
        obtain ⟨o8, c8, rfl⟩ := ho8.len
        have k8 : Keep NoS wr w8 := Keep.both (Keep.refl _ _).drew hk8
        refine hK _ _ ⟨fun _ => HCL2.out _ k8, ?_⟩
        clear hK K hk8
        (repeat (quiet_step (fail))); refine wpQuiet_nil ?_
        refine wpAt rfl rfl fun K hK => ?_
        go_simp
        have k9 : Keep NoS wr (w8.alloc (.cells #[.slice o8 c.length c8] TLi)) := k8.alloc _
        refine hK _ _ ⟨fun _ => HCL2.out _ k9, ?_⟩
        clear hK K
        (repeat (quiet_step (fail))); refine wpQuiet_nil ?_
        refine wpAt rfl rfl fun K hK => ?_
        have HI8 := Lib.hid (((OwnI.keep ho8 ((Keep.refl NoS w8).alloc (.cells #[.slice o8 c.length c8] TLi)))).intsT (valid_64 hvc))
        have hcl9 := HCL.out
        have hgs := HG6.out
        have hks := (HKR.out.both k9).size
        obtain ⟨v9, w9, hr9, ho9, hg9, hb9, hf9⟩ := ClsT.app (HCV.out.keep k9) (b := w8.heap.size) (blk_at _ _ rfl) HI8.out (by omega) (by omega)
        have h69 := (hg9.block g6 (lt_of_heap ((k9.block g6 (lt_of_heap H6.out) fun _ h => h).trans H6.out)) fun e => (HCV.out.neT ⟨_, H6.out⟩ (by decide) g6 e.symm rfl)).trans ((k9.block g6 (lt_of_heap H6.out) fun _ h => h).trans H6.out)
        have h79 := (hg9.block (g6 + 1) (lt_of_heap ((k9.block (g6 + 1) (lt_of_heap h7') fun _ h => h).trans h7')) fun e => (HCV.out.neT ⟨_, h7'⟩ (by decide) (g6 + 1) e.symm rfl)).trans ((k9.block (g6 + 1) (lt_of_heap h7') fun _ h => h).trans h7')
        have hk9 : Keep NoS w w9 := (HKR.out.both k9).grown hg9 fun q hq => by have := (HCV.out.lt q hq).1; omega
        obtain ⟨o9, c9, hv9, -⟩ := ho9.form
        have hl9 : (cls ++ [c]).length = i + 1 := by rw [List.length_append, hcl9]; rfl
        rw [hl9] at hv9
        subst hv9
        have H6N : Hid ((w9.setCell ⟨g6 + 1, 1, none⟩ (.slice o9 (i + 1) c9)).heap[g6]? = some (.cells #[.int .i64 0, .slice none 0 0] TCn (0, 0))) := Lib.hid ((heap_setCell_other _ ⟨g6 + 1, 1, none⟩ _ g6 (show g6 ≠ g6 + 1 by omega)).trans h69)
        have H7N : Hid ((w9.setCell ⟨g6 + 1, 1, none⟩ (.slice o9 (i + 1) c9)).heap[g6 + 1]? = some (.cells #[.int .i64 5, .slice o9 (i + 1) c9] TCn (0, 0))) := Lib.hid (by rw [Go.Joins.block_setCell h79 _]; rfl)
        have q1 := (OneB.refl (w := w9) (b := g6 + 1) (t := TCn) ⟨_, h79⟩).set ⟨by decide, by decide⟩ 1 (.slice o9 (i + 1) c9)
        have HCN : Hid (ClsT (w9.setCell ⟨g6 + 1, 1, none⟩ (.slice o9 (i + 1) c9)) g6 (.slice o9 (i + 1) c9) (cls ++ [c])) := Lib.hid (ho9.fr q1.fr fun j hj => q1.other j (ho9.neT ⟨_, h79⟩ (by decide) j hj))
        have HKN := Lib.hid (keep_at hk9 (b := g6 + 1) (i := 1) (.slice o9 (i + 1) c9) (by omega))
        have HVN : Hid (∀ d ∈ cls ++ [c], ValidC 5 d) := Lib.hid (fun d hd => (List.mem_append.1 hd).elim (HVAL.out d) fun h => by rw [List.mem_singleton.1 h]; exact hvc)
        have HLN := Lib.hid hl9
        have B9 : Blk w9 (g6 + 1) #[.int .i64 5, .slice ov i cv] := ⟨_, h79⟩
        have f9 := B9.free 1
        have g9 : w9.cell? ⟨g6 + 1, 1, none⟩ = some (.slice ov i cv) := B9.cell 1
        have gl := B9.lt
        clear ho9 hg9 hb9 hf9 h69 h79 hk9 q1 B9 hl9 hcl9 hgs hks ho8 hvc hlc
        refine wp_app_run _ _ 26 _ _ rfl rfl rfl hr9 ?_
        refine hK _ _ ⟨fun h => (by simp at h), ?_⟩
        clear hr9 hK HCL2 z1 z2 zl zm y0 y1 yl f1 k8 k9
        (repeat (quiet_step (fail))); refine wpQuiet_nil ?_
        refine wpAt rfl rfl fun K hK => ?_
        go_simp
        refine hK _ _ ⟨fun h => (by simp at h), ?_⟩
        clear hK
        (repeat (quiet_step (fail))); refine wpQuiet_nil ?_
        refine NoPanic.normal ?_
        go_wp2
        go_roundw
        case rel => exact ⟨i + 1, cls ++ [c], _, by go_num, by omega, HLN.out, HKN.out, H6N.out, H7N.out, HCN.out, HVN.out⟩
        case measure => simp [intOf]; omega
end Go.Proofs.YtnndmdfjdodiiaaGreat

namespace Go.Proofs.YtnndmdfjdodiiaaGreat
open Go.ChangeShapes Go.WideShapes Go.RowKit Go.Maps
set_option linter.unusedVariables false
set_option linter.unusedSimpArgs false

/-- The assignment of five variables of a number. -/
def asgL (k : Nat) : List Bool := (List.range 5).map fun j => k.testBit (4 - j)
theorem asg_bit : ∀ k : Fin 32, ∀ i : Fin 5, (bits BinOp.and IntKind.i64 ((k.val : Int) / 2 ^ (4 - i.val)) 1 == 1) = k.val.testBit (4 - i.val) := by decide +kernel
set_option maxRecDepth 100000 in
set_option maxHeartbeats 16000000 in
theorem asg_any (w : World) (k : Nat) (hk : k < 32) : Calls Tryz.prog 64 #[.int .i64 5, .int .i64 (k : Int)] w fun e w' => ∃ g, e = .returned (.slice (some ⟨g, 0, none⟩) 5 5) ∧ BoolsT w' g (asgL k) ∧ Keep NoS w w' := by
  obtain ⟨w11, hr11, hb11, hk11⟩ := make_boolsT w 5 (by omega)
  have hr12 : (Instr.makeSlice 24 (.int .i64 5) (.int .i64 5)).run Tryz.prog w = .ok (.slice (some ⟨w.heap.size, 0, none⟩) 5 5) w11 := hr11
  have HB := Lib.hid hb11
  have HK := Lib.hid hk11
  clear hr11 hb11 hk11
  generalize hg : w.heap.size = g at *
  have HG := Lib.hid hg
  clear hg
  go_enter Tryz.func64, Tryz.ntmps64
  go_wp2
  go_loopw [11] (fun t wr => ∃ (i : Nat) (l : List Bool), t = .int .i64 (i : Int) ∧ i ≤ 5 ∧ l.length = 5 ∧ BoolsT wr g l ∧ Keep NoS w wr ∧ ∀ j, j < i → l[j]? = some (k.testBit (4 - j))) (fun t _ => (5 - intOf t).toNat)
  case atStart => exact ⟨0, _, rfl, by omega, by simp, HB.out, HK.out, fun j hj => absurd hj (by omega)⟩
  case round =>
    obtain ⟨i, l, rfl, hi, hl, hb, hkr, hj⟩ := hrel
    have HBR := Lib.hid hb
    have HKR := Lib.hid hkr
    have HJ := Lib.hid hj
    have HL := Lib.hid hl
    clear hkr hj hl
    by_cases hi5 : i < 5
    case pos =>
      have hlt : (i : Int) < 5 := by omega
      have hge2 : ¬ 4 - (i : Int) < 0 := by omega
      have hbit : (bits BinOp.and IntKind.i64 ((k : Int) / 2 ^ (4 - i)) 1 == 1) = k.testBit (4 - i) := asg_bit ⟨k, hk⟩ ⟨i, hi5⟩
      obtain ⟨m, m0⟩ : ∃ y, wr.cell? ⟨g, i, none⟩ = some (.bool y) := ⟨l[i]'(by rw [HL.out]; exact hi5), cell_of_heap (o := i) hb.1 (by simp [HL.out, hi5])⟩
      have m1 : wr.frozen? ⟨g, i, none⟩ = false := free_of_heap hb.1
      have ml := lt_of_heap hb.1
      have HNX := Lib.hid (hb.set i (k.testBit (4 - i)))
      have HKN : Hid (Keep NoS w (wr.setCell ⟨g, i, none⟩ (.bool (k.testBit (4 - i))))) := Lib.hid (keep_at HKR.out _ (by have := HG.out; omega))
      have HJN : Hid (∀ j, j < i + 1 → (l.set i (k.testBit (4 - i)))[j]? = some (k.testBit (4 - j))) := Lib.hid (fun j hj => by
        by_cases e : j = i
        · subst e
          rw [List.getElem?_set_self (by rw [HL.out]; exact hi5)]
        · rw [List.getElem?_set_ne (fun h => e h.symm)]
          exact HJ.out j (by omega))
      have HLN : Hid ((l.set i (k.testBit (4 - i))).length = 5) := Lib.hid (by rw [List.length_set]; exact HL.out)
      clear hb
      go_wp2
      go_roundw
      case rel => exact ⟨i + 1, _, by go_num, by omega, HLN.out, HNX.out, HKN.out, HJN.out⟩
      case measure => simp [intOf]; omega
    case neg =>
      have hlt : ¬ (i : Int) < 5 := by omega
      have HE : Hid (l = asgL k) := Lib.hid (List.ext_getElem? fun j => by
        by_cases h : j < 5
        · rw [HJ.out j (by omega)]
          unfold asgL
          simp [h]
        · rw [List.getElem?_eq_none (by rw [HL.out]; omega), List.getElem?_eq_none (by simp [asgL]; omega)])
      clear hb
      go_wp2
      refine bodyPost_ret (by simp [results, Tryz.results64, go_sem]; rfl) rfl ?_
      exact ⟨g, rfl, by rw [← HE.out]; exact HBR.out, HKR.out⟩
end Go.Proofs.YtnndmdfjdodiiaaGreat
