/- umpirageref5.GapTable. -/
import Derived.Test.YtnmklgigmmlgeaaGapFar
import Derived.Deep.AppendLies
namespace Go.Proofs.Ytnmklgigmmlgeaa
open Go.ChangeShapes Go.WideShapes Go.RowKit
set_option linter.unusedVariables false
set_option linter.unusedSimpArgs false

/-- What the document's table is. -/
def TabRes (N : Nat) (l : List Gp) (w' : World) (v : Value) : Prop :=
  (¬ okTo N l N ∧ v = .tuple #[.slice none 0 0, .bool false]) ∨
  (okTo N l N ∧ ∃ ov cv, v = .tuple #[.slice ov N cv, .bool true] ∧ (0 < N → ∃ G gs cp, ov = some ⟨G, 0, none⟩ ∧ Mat w' G N gs cp (tab N l N)))

def lineV (gs cp : Nat → Nat) (N i : Nat) : Value := .slice (some ⟨gs i, 0, none⟩) N (cp i)
def linesV (gs cp : Nat → Nat) (N a : Nat) : List Value := (List.range a).map (lineV gs cp N)

theorem linesV_succ (gs cp : Nat → Nat) (N a g c : Nat) : linesV (fun i => if i = a then g else gs i) (fun i => if i = a then c else cp i) N (a + 1) = linesV gs cp N a ++ [.slice (some ⟨g, 0, none⟩) N c] := by
  unfold linesV
  rw [List.range_succ, List.map_append]
  congr 1
  · refine List.map_congr_left fun i hi => ?_
    have : i ≠ a := by have := List.mem_range.1 hi; omega
    simp [lineV, this]
  · simp [lineV]

theorem own_below {wa wr : World} {base B n size : Nat} {e : TypeId} {v : Value} {xs : List Value} (h : wa.ownsRow base e size v n xs) (hb : Below B wa wr) (hB : B = wa.heap.size) : wr.ownsRow base e size v n xs := by
  subst hB
  refine ⟨h.1, ?_⟩
  rcases h.2 with h1 | ⟨g, cap, cur, hv, h2, h3, h4⟩
  · exact .inl h1
  · exact .inr ⟨g, cap, cur, hv, h2, by rw [hb.block g (lt_of_heap h3)]; exact h3, h4⟩

def prefixV (f : Nat → Int) (b : Nat) : List Value := intsV ((List.range b).map f)
theorem prefixV_succ (f : Nat → Int) (b : Nat) : prefixV f (b + 1) = prefixV f b ++ [.int .i64 (f b)] := by simp [prefixV, intsV, List.range_succ]
theorem line_of_own {w : World} {base g cap N : Nat} {f : Nat → Int} (h : w.ownsRow base TI 1 (.slice (some ⟨g, 0, none⟩) N cap) N (prefixV f N)) : Line w g N f :=
  arr_of_own h fun i hi => by simp [prefixV, intsV, hi]

set_option maxRecDepth 100000 in
set_option maxHeartbeats 16000000 in
theorem gapTable_any (w : World) (N : Nat) (v : Value) (l : List Gp) (h : IsGaps w v l) (hg : GpsOK N l) :
    Calls Try.prog 40 #[.int .i64 N, v] w fun e w' => ∃ v', e = .returned v' ∧ Keep NoS w w' ∧ TabRes N l w' v' := by
  have HG := Lib.hid h
  have HGP := Lib.hid hg
  have hN12 := hg.1
  have hl60 := hg.2.1
  obtain ⟨oa, cap, rfl, hm, hr, _⟩ := h
  clear hr hm hg
  obtain ⟨i1, hi1, hz1, hs1, hb1⟩ := info_parts infoInts
  obtain ⟨i0, hi0, hz0, hs0, hb0⟩ := info_parts infoInt
  go_enter Try.func40, Try.ntmps40
  go_wp2
  go_loopw [7, 6] (fun s t wr => ∃ a : Nat, a ≤ N ∧ s = .int .i64 a ∧ Keep NoS w wr ∧ lenV t = a ∧ ∃ gs cp, wr.ownsRow w.heap.size TL 1 t a (linesV gs cp N a) ∧ (∀ i, i < a → w.heap.size ≤ gs i) ∧ (0 < N → Lines wr a N gs (tini l l.length))) (fun s _ _ => (N - intOf s).toNat)
  case atStart => exact ⟨0, by omega, rfl, by (repeat' (first | (with_reducible assumption) | (with_reducible exact HK.out) | (with_reducible exact Keep.refl _ _) | (with_reducible refine Keep.alloc ?_ _) | (with_reducible refine Keep.setCell ?_ _ (fun h => absurd h (by omega))) | (with_reducible refine Keep.drewN ?_ _) | (with_reducible refine Keep.drew ?_))), rfl, fun _ => 0, fun _ => 0, World.ownsRow_nil _ _ _ _, fun i hi => absurd hi (by omega), fun _ => ⟨fun a ha => absurd ha (by omega), fun a b ha => absurd ha (by omega)⟩⟩
  case round =>
    obtain ⟨a, ha, rfl, hkp, hlv, gs, cp, hown, hge, hln⟩ := hrel
    have HKP := Lib.hid hkp
    have HGE := Lib.hid hge
    by_cases haN : a < N
    · have hlt : (a : Int) < (N : Int) := by omega
      have HLN := Lib.hid (hln (by omega))
      have HOW := Lib.hid hown
      have HLV := Lib.hid hlv
      clear hkp hge hln hown hlv
      obtain ⟨wa, rfl⟩ : ∃ W : World, W = wr := ⟨_, rfl⟩
      have hwa := HKP.out.size
      go_wp2
      go_loopw [9, 8] (fun s t wr => ∃ b : Nat, b ≤ N ∧ s = .int .i64 b ∧ Below wa.heap.size wa wr ∧ lenV t = b ∧ wr.ownsRow wa.heap.size TI 1 t b (prefixV (tini l l.length a) b)) (fun s _ _ => (N - intOf s).toNat)
      case atStart => exact ⟨0, by omega, rfl, Below.refl _ _, rfl, World.ownsRow_nil _ _ _ _⟩
      case round =>
        obtain ⟨b, hb, rfl, hbel, hlv, hown⟩ := hrel
        have HBE := Lib.hid hbel
        have HOL := Lib.hid hown
        have HLV2 := Lib.hid hlv
        have KW : Keep NoS w wr := HKP.out.trans (Keep.of_below hbel (Nat.le_refl _)) fun _ _ _ h => h
        have hws := hbel.size
        clear hbel hown hlv
        by_cases hbN : b < N
        · have hltb : (b : Int) < (N : Int) := by omega
          have HPS : Hid (prefixV (tini l l.length a) (b + 1) = prefixV (tini l l.length a) b ++ [.int .i64 (tini l l.length a b)]) := Lib.hid (prefixV_succ _ _)
          have HOB := Lib.hid (fun k hk => (HOL.out.lt k hk).1)
          have HZ0 : Hid (tini l 0 a b = if ((a : Int) == (b : Int)) then 0 else 1099511627776) := Lib.hid (by
            show (if a = b then (0 : Int) else 1099511627776) = _
            by_cases hab : a = b
            · simp [hab]
            · have : ((a : Int) == (b : Int)) = false := by rw [beq_eq_false_iff_ne]; omega
              rw [this, if_neg hab]; rfl)
          obtain ⟨qb, hqb⟩ : ∃ q : Bool, ((a : Int) == (b : Int)) = q := ⟨_, rfl⟩
          rw [hqb] at HZ0
          go_upto_if 28 with fail
          go_cut [10] (fun s wx => s = .int .i64 (tini l 0 a b) ∧ wx = wr)
          case first =>
            cases qb
            all_goals
              have HZ := Lib.hid HZ0.out
              simp only [Bool.false_eq_true, if_false, if_true] at HZ
              clear HZ0
              go_wp2_with fail
              go_meet
              exact ⟨by rw [HZ.out], rfl⟩
          case rest =>
            obtain ⟨rfl, rfl⟩ := hcut
            obtain ⟨wr, rfl⟩ : ∃ W : World, W = wc := ⟨_, rfl⟩
            clear hqb HZ0
            go_wp2
            go_loop [11, 10] (fun s t => ∃ k : Nat, k ≤ l.length ∧ s = .int .i64 k ∧ t = .int .i64 (tini l k a b)) (fun s _ => (l.length - intOf s).toNat)
            case atStart => exact ⟨0, by omega, rfl, rfl⟩
            case round =>
              obtain ⟨k, hk, rfl, rfl⟩ := hrel
              by_cases hkl : k < l.length
              · have hltk : (k : Int) < (l.length : Int) := by omega
                obtain ⟨bg, og, cg, hsl, hbg, a0, a1, a2⟩ := (HG.out.keep KW).at hkl
                cases hsl
                have hgk : l.getD k ⟨0, 0, 0⟩ = l[k] := by rw [List.getD_eq_getElem?_getD, List.getElem?_eq_getElem hkl]; rfl
                have hq := HGP.out.at hkl
                have HTI : Hid (tini l (k + 1) a b = if l[k].A.toNat = a ∧ l[k].B.toNat = b then min (tini l k a b) l[k].By else tini l k a b) := Lib.hid (by rw [tini]; unfold gA gB gY; rw [hgk])
                unfold gA gB gY at hq
                rw [hgk] at hq
                clear hgk
                generalize l[k] = g at *
                obtain ⟨A, B, By⟩ := g
                simp only at a0 a1 a2 hq HTI
                obtain ⟨A, rfl⟩ : ∃ m : Nat, A = (m : Int) := ⟨A.toNat, by omega⟩
                obtain ⟨B, rfl⟩ : ∃ m : Nat, B = (m : Int) := ⟨B.toNat, by omega⟩
                simp only [Int.toNat_natCast] at hq HTI
                generalize hzz : tini l k a b = z at *
                have HZZ := Lib.hid hzz
                clear hzz hq
                by_cases hA : A = a
                · have e1 : ((A : Int) == (a : Int)) = true := by rw [beq_iff_eq]; omega
                  by_cases hB : B = b
                  · have e2 : ((B : Int) == (b : Int)) = true := by rw [beq_iff_eq]; omega
                    have HT := Lib.hid (HTI.out.trans (if_pos ⟨hA, hB⟩))
                    clear hA hB HTI
                    by_cases hlow : By < z
                    · have e3 := dec_t hlow
                      go_wp2
                      go_round
                      case rel => exact ⟨k + 1, by omega, by go_num, by rw [HT.out, Int.min_eq_right (by omega)]⟩
                      case measure => simp [intOf]; omega
                    · have e3 := dec_f hlow
                      go_wp2
                      go_round
                      case rel => exact ⟨k + 1, by omega, by go_num, by rw [HT.out, Int.min_eq_left (by omega)]⟩
                      case measure => simp [intOf]; omega
                  · have e2 : ((B : Int) == (b : Int)) = false := by rw [beq_eq_false_iff_ne]; omega
                    have HT := Lib.hid (HTI.out.trans (if_neg fun h => hB h.2))
                    clear hA hB HTI
                    go_wp2
                    go_round
                    case rel => exact ⟨k + 1, by omega, by go_num, by rw [HT.out]⟩
                    case measure => simp [intOf]; omega
                · have e1 : ((A : Int) == (a : Int)) = false := by rw [beq_eq_false_iff_ne]; omega
                  have HT := Lib.hid (HTI.out.trans (if_neg fun h => hA h.1))
                  clear hA HTI
                  go_wp2
                  go_round
                  case rel => exact ⟨k + 1, by omega, by go_num, by rw [HT.out]⟩
                  case measure => simp [intOf]; omega
              · have hltk : ¬ (k : Int) < (l.length : Int) := by omega
                obtain rfl : k = l.length := by omega
                generalize tini l l.length a b = z at *
                go_wp2_with (first
                  | (at_builtin; refine wpList_append_lies _ rfl _ _ 40 rfl wa.heap.size TI i0 (.int .i64 0) 1 8 Try.underlying40 hi0 hz0 hs0 hb0 rfl (by decide) u8 b _ rfl (HOL.out.alloc _) ⟨wr.heap.size, 0, none⟩ 1 1 [.int .i64 z] rfl rfl ?c1 ?c2 (by decide) ?c3 ?c4 ?c5 (wr.heap.size + 1) ?c6 ?_)
                  | fail)
                case c2 => rfl
                case c3 => unfold maxLen; omega
                case c4 => omega
                case c5 => first | omega | (simp; omega)
                intro g2 cap2 w1 hown1 hgrow hat hlt2
                rw [← HPS.out] at hown1
                have bel : Below wa.heap.size wa w1 := (HBE.out.alloc hws _).trans (grown_keep hgrow wa.heap.size (by simp; omega) HOB.out)
                have HBL := Lib.hid bel
                have HO1 := Lib.hid hown1
                clear bel hown1 hgrow hat
                go_wp2
                go_roundw
                case rel => exact ⟨b + 1, by omega, by go_num, HBL.out, rfl, HO1.out⟩
                case measure => simp [intOf]; omega
        · have hltb : ¬ (b : Int) < (N : Int) := by omega
          obtain rfl : b = N := by omega
          obtain ⟨gl, cl, hul, _⟩ := HOL.out.form (by omega)
          subst hul
          have hglt := HOL.out.lt gl rfl
          have hownt : wr.ownsRow w.heap.size TL 1 u6 a (linesV gs cp b a) := own_below HOW.out HBE.out rfl
          have HOT := Lib.hid hownt
          have HOB := Lib.hid (fun k hk => (hownt.lt k hk).1)
          have HLS := Lib.hid (HLN.out.keep (Keep.of_below HBE.out (Nat.le_refl _)))
          have HNW := Lib.hid (line_of_own HOL.out)
          have HNE : Hid (∀ i, i < a → gs i ≠ gl) := Lib.hid fun i hi e => by
            have := Arr.lt (HLN.out.line i hi)
            omega
          have HLS2 : Hid (linesV (fun i => if i = a then gl else gs i) (fun i => if i = a then cl else cp i) b (a + 1) = linesV gs cp b a ++ [.slice (some ⟨gl, 0, none⟩) b cl]) := Lib.hid (linesV_succ _ _ _ _ _ _)
          have hws2 := KW.size
          go_wp2_with (first
            | (at_builtin; refine wpList_append_lies _ rfl _ _ 67 rfl w.heap.size TL i1 (.slice none 0 0) 1 24 Try.underlying67 hi1 hz1 hs1 hb1 rfl (by decide) u6 a _ rfl (HOT.out.alloc _) ⟨wr.heap.size, 0, none⟩ 1 1 [.slice (some ⟨gl, 0, none⟩) b cl] rfl rfl ?e1 ?e2 (by decide) ?e3 ?e4 ?e5 (wr.heap.size + 1) ?e6 ?_)
            | fail)
          case e2 => rfl
          case e3 => unfold maxLen; omega
          case e4 => omega
          case e5 => first | omega | (simp; omega)
          intro g2 cap2 w1 hown1 hgrow hat hlt2
          rw [← HLS2.out] at hown1
          have bel : Below w.heap.size w w1 := ((Keep.bel KW).alloc hws2 _).trans (grown_keep hgrow w.heap.size (by simp; omega) HOB.out)
          have K1 : Keep NoS w w1 := Keep.of_below bel (Nat.le_refl _)
          have L1 := (HLS.out.old (.cells #[.slice (some ⟨gl, 0, none⟩) b cl] TL)).grown (row := none) hgrow (HOT.out.alloc _)
          have N1 : Line w1 gl b (tini l l.length a) := (Arr.old HNW.out _).grown hgrow fun e => by
            obtain ⟨c, fz, hc⟩ := Lib.ownsRow_kind (HOT.out.alloc (.cells #[.slice (some ⟨gl, 0, none⟩) b cl] TL)) _ e.symm
            obtain ⟨A, hA, _⟩ := Arr.old HNW.out (.cells #[.slice (some ⟨gl, 0, none⟩) b cl] TL)
            rw [hA] at hc
            simp at hc
            exact absurd hc.2.1 (by decide)
          have HM := Lib.hid ((L1.more N1 HNE.out).congr (t' := tini l l.length) fun x y hx hy => by by_cases e : x = a <;> simp [e])
          have HK1 := Lib.hid K1
          have HO1 := Lib.hid hown1
          clear bel K1 L1 N1 hown1 hgrow hat
          go_wp2
          go_roundw
          case rel => exact ⟨a + 1, by omega, by go_num, HK1.out, rfl, _, _, HO1.out, fun i hi => by
            by_cases e : i = a
            · simp only [e, if_true]; omega
            · simp only [e, if_false]; exact HGE.out i (by omega), fun _ => HM.out⟩
          case measure => simp [intOf]; omega
    · have hlt : ¬ (a : Int) < (N : Int) := by omega
      obtain rfl : a = N := by omega
      by_cases hN0 : a = 0
      · subst hN0
        obtain ⟨ov, cv, hu⟩ : ∃ ov cv, u6 = .slice ov 0 cv := by
          rcases hown.2 with ⟨h, _⟩ | ⟨g, c, _, h, _⟩
          · exact ⟨none, 0, h⟩
          · exact ⟨_, c, h⟩
        subst hu
        clear hkp hown hln hge hlv
        obtain ⟨wa, rfl⟩ : ∃ W : World, W = wr := ⟨_, rfl⟩
        go_wp2
        go_loopw [12] (fun s wr => s = .int .i64 0 ∧ wr = wa) (fun s _ => 0)
        case atStart => exact ⟨rfl, rfl⟩
        case round =>
          obtain ⟨rfl, rfl⟩ := hrel
          go_wp2
          go_ret2
          exact ⟨_, rfl, HKP.out, .inr ⟨fun k hk => absurd hk (by omega), ov, cv, rfl, fun h => absurd h (by omega)⟩⟩
      · obtain ⟨k, hk⟩ : ∃ k : Nat, k = a := ⟨_, rfl⟩
        subst hk
        obtain ⟨G, cG, hu, _⟩ := hown.form (by omega)
        subst hu
        have HM0 : Hid (Mat wr G k gs cp (tab k l 0)) := Lib.hid ⟨arr_of_own hown fun i hi => by simp [linesV, hi, lineV], hln (by omega)⟩
        have hGl := (hown.lt G rfl).2
        have HK0 := Lib.hid hkp
        have HGS := HGE
        clear hkp hown hln hge hlv HKP HGE
        obtain ⟨w4, rfl⟩ : ∃ W : World, W = wr := ⟨_, rfl⟩
        go_wp2
        go_loopw [12] (fun s wr => ∃ q : Nat, q ≤ k ∧ s = .int .i64 q ∧ Keep NoS w wr ∧ Mat wr G k gs cp (tab k l q) ∧ okTo k l q) (fun s _ => (k - intOf s).toNat)
        case atStart => exact ⟨0, by omega, rfl, HK0.out, HM0.out, fun k hk => absurd hk (by omega)⟩
        case round =>
          obtain ⟨q, hq, rfl, hkp, hmt, hok⟩ := hrel
          have HOK := Lib.hid hok
          have HKQ := Lib.hid hkp
          have HMQ := Lib.hid hmt
          clear hkp hmt hok HM0 HK0
          by_cases hqk : q < k
          · have hltq : (q : Int) < (k : Int) := by omega
            obtain ⟨w5, rfl⟩ : ∃ W : World, W = wr := ⟨_, rfl⟩
            go_wp2
            go_loopw [13] (fun s wr => ∃ a : Nat, a ≤ k ∧ s = .int .i64 a ∧ Keep NoS w wr ∧ Mat wr G k gs cp (fmat k (tab k l q) q a)) (fun s _ => (k - intOf s).toNat)
            case atStart => exact ⟨0, by omega, rfl, HKQ.out, HMQ.out⟩
            case round =>
              obtain ⟨a, ha, rfl, hkp, hmt⟩ := hrel
              have HKA := Lib.hid hkp
              have HMA := Lib.hid hmt
              clear hkp hmt HMQ HKQ
              by_cases hak : a < k
              · have hlta : (a : Int) < (k : Int) := by omega
                obtain ⟨w6, rfl⟩ : ∃ W : World, W = wr := ⟨_, rfl⟩
                go_wp2
                go_loopw [14] (fun s wr => ∃ b : Nat, b ≤ k ∧ s = .int .i64 b ∧ Keep NoS w wr ∧ Mat wr G k gs cp (frow (fmat k (tab k l q) q a) q a b)) (fun s _ => (k - intOf s).toNat)
                case atStart => exact ⟨0, by omega, rfl, HKA.out, HMA.out⟩
                case round =>
                  obtain ⟨b, hb, rfl, hkp, hmt⟩ := hrel
                  have HKB := Lib.hid hkp
                  have HMB := Lib.hid hmt
                  have hGl := hmt.1.lt
                  clear hkp hmt HMA HKA
                  by_cases hbk : b < k
                  · have hltb : (b : Int) < (k : Int) := by omega
                    have HFS : Hid (frow (fmat k (tab k l q) q a) q a (b + 1) = fstep (frow (fmat k (tab k l q) q a) q a b) q a b) := Lib.hid rfl
                    have hgA := HGS.out a hak
                    have hca := HMB.out.1.cell hak
                    have hcq := HMB.out.1.cell hqk
                    have hlA := HMB.out.2.line a hak
                    have hlQ := HMB.out.2.line q hqk
                    have haq := Arr.cell hlA hqk
                    have hab := Arr.cell hlA hbk
                    have hqb := Arr.cell hlQ hbk
                    have hlL := Arr.lt hlA
                    have hfL := Arr.free hlA b
                    clear hlA hlQ
                    generalize hT : frow (fmat k (tab k l q) q a) q a b = T at *
                    clear hT
                    have HST : Hid (fstep T q a b = if T a q < 1099511627776 ∧ T q b < 1099511627776 then upd T a b (min (T a b) (IntKind.i64.wrap (T a q + T q b))) else T) := Lib.hid rfl
                    generalize hx : T a q = x at *
                    generalize hy : T q b = y at *
                    generalize hz : T a b = z at *
                    have HX := Lib.hid hx
                    have HY := Lib.hid hy
                    have HZ := Lib.hid hz
                    clear hx hy hz
                    by_cases hx : x < 1099511627776
                    · have d1 := dec_t hx
                      by_cases hy : y < 1099511627776
                      · have d2 := dec_t hy
                        have HT' := Lib.hid (HST.out.trans (if_pos ⟨hx, hy⟩))
                        clear hx hy HST
                        by_cases hlow : IntKind.i64.wrap (x + y) < z
                        · have e1 := dec_t hlow
                          go_wp2
                          refine wp_region_by (fun w' => w'.cell? ⟨G, a, none⟩ = some (.slice (some ⟨gs a, 0, none⟩) k (cp a)) ∧ w'.cell? ⟨G, q, none⟩ = some (.slice (some ⟨gs q, 0, none⟩) k (cp q)) ∧
                              w'.cell? ⟨gs a, q, none⟩ = some (.int .i64 x) ∧ w'.cell? ⟨gs q, b, none⟩ = some (.int .i64 y) ∧ w'.cell? ⟨gs a, b, none⟩ = some (.int .i64 z))
                            [29] [([0, 1, 2, 3, 4, 5, 6, 7, 8, 9, 10, 11, 12, 13, 14, 15, 16, 17, 18, 19, 20, 21, 22, 23, 24, 25, 26, 27, 28], 29)] [] (by kernel_rfl) (by kernel_rfl) ⟨hca, hcq, haq, hqb, hab⟩ ?_
                          intro X W hne hF hcl
                          have hx0 := fun x => (hF x).1
                          have hx1 := fun x => (hF x).2.1
                          have hx2 := fun x => (hF x).2.2.1
                          have hx3 := fun x => (hF x).2.2.2.1
                          have hx4 := fun x => (hF x).2.2.2.2
                          clear hF hcl
                          simp only [wpPlan, pickOps, List.getElem?_toArray, List.getElem?_cons_zero, List.getElem?_cons_succ, clsOf, Bool.false_eq_true, if_false]
                          (repeat (quiet_step (fail))); refine wpQuiet_nil ?_
                          refine wpOp_at (by simp only [List.getElem?_toArray, List.getElem?_cons_zero, List.getElem?_cons_succ]; rfl) (by rfl) (fun K hK => ?_)
                          go_simp
                          refine hK _ _ ⟨fun h => (by simp at h), ?_⟩
                          clear hK K hx0 hx1 hx2 hx3 hx4
                          (repeat (quiet_step (fail))); refine wpQuiet_nil ?_
                          refine NoPanic.normal ?_
                          go_wp2
                          go_roundw
                          case rel =>
                            refine ⟨b + 1, by omega, by go_num, (HKB.out.setCell _ fun h => absurd h (by omega)).drew, ?_⟩
                            · refine ((HMB.out.set hak b _).keep (Keep.refl _ _).drew).congr fun X Y => ?_
                              rw [HFS.out, HT'.out, upd, Int.min_eq_right (by omega), Go.IntWalk.i64_left]
                          case measure => simp [intOf]; omega
                        · have e1 := dec_f hlow
                          go_wp2
                          refine wp_region_by (fun w' => w'.cell? ⟨G, a, none⟩ = some (.slice (some ⟨gs a, 0, none⟩) k (cp a)) ∧ w'.cell? ⟨G, q, none⟩ = some (.slice (some ⟨gs q, 0, none⟩) k (cp q)) ∧
                              w'.cell? ⟨gs a, q, none⟩ = some (.int .i64 x) ∧ w'.cell? ⟨gs q, b, none⟩ = some (.int .i64 y) ∧ w'.cell? ⟨gs a, b, none⟩ = some (.int .i64 z))
                            [29] [([0, 1, 2, 3, 4, 5, 6, 7, 8, 9, 10, 11, 12, 13, 14, 15, 16, 17, 18, 19, 20, 21, 22, 23, 24, 25, 26, 27, 28], 29)] [] (by kernel_rfl) (by kernel_rfl) ⟨hca, hcq, haq, hqb, hab⟩ ?_
                          intro X W hne hF hcl
                          have hx0 := fun x => (hF x).1
                          have hx1 := fun x => (hF x).2.1
                          have hx2 := fun x => (hF x).2.2.1
                          have hx3 := fun x => (hF x).2.2.2.1
                          have hx4 := fun x => (hF x).2.2.2.2
                          clear hF hcl
                          simp only [wpPlan, pickOps, List.getElem?_toArray, List.getElem?_cons_zero, List.getElem?_cons_succ, clsOf, Bool.false_eq_true, if_false]
                          (repeat (quiet_step (fail))); refine wpQuiet_nil ?_
                          refine wpOp_at (by simp only [List.getElem?_toArray, List.getElem?_cons_zero, List.getElem?_cons_succ]; rfl) (by rfl) (fun K hK => ?_)
                          go_simp
                          refine hK _ _ ⟨fun h => (by simp at h), ?_⟩
                          clear hK K hx0 hx1 hx2 hx3 hx4
                          (repeat (quiet_step (fail))); refine wpQuiet_nil ?_
                          refine NoPanic.normal ?_
                          go_wp2
                          go_roundw
                          case rel =>
                            refine ⟨b + 1, by omega, by go_num, (HKB.out.setCell _ fun h => absurd h (by omega)).drew, ?_⟩
                            · refine ((HMB.out.set hak b _).keep (Keep.refl _ _).drew).congr fun X Y => ?_
                              rw [HFS.out, HT'.out, upd, Int.min_eq_left (by omega)]
                          case measure => simp [intOf]; omega
                      · have d2 := dec_f hy
                        have HT' := Lib.hid (HST.out.trans (if_neg fun h => hy h.2))
                        clear hx hy HST
                        go_wp2
                        go_roundw
                        case rel => exact ⟨b + 1, by omega, by go_num, HKB.out, by rw [HFS.out, HT'.out]; exact HMB.out⟩
                        case measure => simp [intOf]; omega
                    · have d1 := dec_f hx
                      have HT' := Lib.hid (HST.out.trans (if_neg fun h => hx h.1))
                      clear hx HST
                      go_wp2
                      go_roundw
                      case rel => exact ⟨b + 1, by omega, by go_num, HKB.out, by rw [HFS.out, HT'.out]; exact HMB.out⟩
                      case measure => simp [intOf]; omega
                  · have hltb : ¬ (b : Int) < (k : Int) := by omega
                    obtain rfl : b = k := by omega
                    go_wp2
                    go_roundw
                    case rel => exact ⟨a + 1, by omega, by go_num, HKB.out, HMB.out⟩
                    case measure => simp [intOf]; omega
              · have hlta : ¬ (a : Int) < (k : Int) := by omega
                obtain rfl : a = k := by omega
                have HMT : Hid (Mat wr G a gs cp (tab a l (q + 1))) := HMA
                clear HMA
                obtain ⟨w6, rfl⟩ : ∃ W : World, W = wr := ⟨_, rfl⟩
                go_wp2
                go_loopw [15] (fun s wr => ∃ d : Nat, d ≤ a ∧ s = .int .i64 d ∧ Keep NoS w wr ∧ Mat wr G a gs cp (tab a l (q + 1)) ∧ ∀ i, i < d → 0 ≤ tab a l (q + 1) i i) (fun s _ => (a - intOf s).toNat)
                case atStart => exact ⟨0, by omega, rfl, HKA.out, HMT.out, fun i hi => absurd hi (by omega)⟩
                case round =>
                  obtain ⟨d, hd, rfl, hkp, hmt, hdi⟩ := hrel
                  have HKD := Lib.hid hkp
                  have HMD := Lib.hid hmt
                  have HDI := Lib.hid hdi
                  have hGl := hmt.1.lt
                  clear hkp hmt hdi HMT HKA
                  by_cases hda : d < a
                  · have hltd : (d : Int) < (a : Int) := by omega
                    have hcd := HMD.out.1.cell hda
                    have hld := Arr.cell (HMD.out.2.line d hda) hda
                    have hll := Arr.lt (HMD.out.2.line d hda)
                    generalize hx : tab a l (q + 1) d d = x at hld
                    have HX := Lib.hid hx
                    clear hx
                    by_cases hneg : x < 0
                    · have e1 := dec_t hneg
                      have HNO : Hid (¬ okTo a l a) := Lib.hid fun h => by
                        have := h q (by omega) d hda
                        rw [HX.out] at this
                        omega
                      go_wp2
                      go_ret2
                      exact ⟨_, rfl, HKD.out, .inl ⟨HNO.out, rfl⟩⟩
                    · have e1 := dec_f hneg
                      have HD2 : Hid (∀ i, i < d + 1 → 0 ≤ tab a l (q + 1) i i) := Lib.hid fun i hi => by
                        by_cases hid : i = d
                        · subst hid; rw [HX.out]; omega
                        · exact HDI.out i (by omega)
                      go_wp2
                      go_roundw
                      case rel => exact ⟨d + 1, by omega, by go_num, HKD.out, HMD.out, HD2.out⟩
                      case measure => simp [intOf]; omega
                  · have hltd : ¬ (d : Int) < (a : Int) := by omega
                    obtain rfl : d = a := by omega
                    go_wp2
                    go_roundw
                    case rel => exact ⟨q + 1, by omega, by go_num, HKD.out, HMD.out, fun i hi => by
                      by_cases e : i = q
                      · subst e; exact HDI.out
                      · exact HOK.out i (by omega)⟩
                    case measure => simp [intOf]; omega
          · have hltq : ¬ (q : Int) < (k : Int) := by omega
            obtain rfl : q = k := by omega
            go_wp2
            go_ret2
            exact ⟨_, rfl, HKQ.out, .inr ⟨HOK.out, _, _, rfl, fun _ => ⟨G, gs, cp, rfl, HMQ.out⟩⟩⟩
end Go.Proofs.Ytnmklgigmmlgeaa
