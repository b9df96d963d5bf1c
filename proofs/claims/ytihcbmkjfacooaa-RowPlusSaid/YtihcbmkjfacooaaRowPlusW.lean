/- The law RowPlus: its walk. -/
import Derived.Test.YtihcbmkjfacooaaRowFact
import Derived.Test.YtihcbmkjfacooaaRowLawE
import Derived.Test.YtihcbmkjfacooaaRowTimesW
namespace Go.Proofs.Ytihcbmkjfacooaa
open Go.ChangeShapes Go.WideShapes Go.RowKit
set_option linter.unusedVariables false
set_option linter.unusedSimpArgs false

theorem ptF_two {r : Rw} {nums : List Fq} (h : (ptF r nums).1 = 0) : RowOK r nums.length := (ptF_ok h).2.1

set_option maxRecDepth 100000 in
set_option maxHeartbeats 8000000 in
theorem rowPlus_walk (w : World) (va : Value) (a : Rw) (vb : Value) (b : Rw) (vn : Value) (nums : List Fq) (ha : IsRow w va a) (hb : IsRow w vb b) (hn : IsFracs w vn nums) :
    Calls Try.prog 13 #[va, vb, vn] w fun e w' => e = .returned (.bool true) ∧ Below w.heap.size w w' := by
  suffices hk : Calls Try.prog 13 #[va, vb, vn] w fun e w' => e = .returned (.bool true) ∧ Keep NoS w w' from hk.mono fun e w' ⟨h1, h2⟩ => ⟨h1, h2.below (Nat.le_refl _) fun _ _ h => h.elim⟩
  have HN := Lib.hid hn
  have CA := fun w' (k : Keep NoS w w') => Lib.hid (rowHolds_any w' va a vn nums (ha.keep k) (hn.keep k))
  have CB := fun w' (k : Keep NoS w w') => Lib.hid (rowHolds_any w' vb b vn nums (hb.keep k) (hn.keep k))
  obtain ⟨x, hxo, hxa, hxb⟩ := holdsV_form a nums
  obtain ⟨y, hyo, hya, hyb⟩ := holdsV_form b nums
  have HPA : Hid ((ptF a nums).1 = 0 → RowOK a nums.length) := Lib.hid ptF_two
  have HPB : Hid ((ptF b nums).1 = 0 → RowOK b nums.length) := Lib.hid ptF_two
  rw [hxo] at CA
  rw [hyo] at CB
  have HX := Lib.hid (And.intro hxa hxb)
  have HY := Lib.hid (And.intro hya hyb)
  obtain ⟨p, hp⟩ : ∃ p : Int × Int, ptF a nums = p := ⟨_, rfl⟩
  obtain ⟨q, hq⟩ : ∃ p : Int × Int, ptF b nums = p := ⟨_, rfl⟩
  rw [hp] at CA HX HPA
  rw [hq] at CB HY HPB
  obtain ⟨p1, p2⟩ := p
  obtain ⟨q1, q2⟩ := q
  unfold fV at CA CB
  simp only at CA CB HX HY HPA HPB
  obtain ⟨sa, rfl, hia, ha1, ha2, _⟩ := ha
  obtain ⟨sb, rfl, hib, hb1, hb2, _⟩ := hb
  have HIA := Lib.hid hia
  have HIB := Lib.hid hib
  obtain ⟨oa, ca, rfl, _⟩ := hia.len
  obtain ⟨ob, cb, rfl, _⟩ := hib.len
  obtain ⟨on, cn, rfl, _, _⟩ := hn.len
  clear hn hia hib hxo hxa hxb hyo hya hyb hp hq ha1 ha2 hb1 hb2
  go_enter Try.func13, Try.ntmps13
  go_wp2_with fail
  have B3 : Blk ((w.alloc (.cells #[.slice oa a.of.length ca, .int .i64 a.kind, .int .i64 a.to] 24)).alloc (.cells #[.slice ob b.of.length cb, .int .i64 b.kind, .int .i64 b.to] 24)) w.heap.size #[.slice oa a.of.length ca, .int .i64 a.kind, .int .i64 a.to] := by (repeat (first | (refine blk_at _ _ ?_; simp; done) | (refine Blk.old ?_ _)))
  have B4 : Blk ((w.alloc (.cells #[.slice oa a.of.length ca, .int .i64 a.kind, .int .i64 a.to] 24)).alloc (.cells #[.slice ob b.of.length cb, .int .i64 b.kind, .int .i64 b.to] 24)) (w.heap.size + 1) #[.slice ob b.of.length cb, .int .i64 b.kind, .int .i64 b.to] := by (repeat (first | (refine blk_at _ _ ?_; simp; done) | (refine Blk.old ?_ _)))
  have K0 : Hid (Keep NoS w ((w.alloc (.cells #[.slice oa a.of.length ca, .int .i64 a.kind, .int .i64 a.to] 24)).alloc (.cells #[.slice ob b.of.length cb, .int .i64 b.kind, .int .i64 b.to] 24))) := Lib.hid (by (repeat' (first | (with_reducible assumption) | (with_reducible exact HK.out) | (with_reducible exact Keep.refl _ _) | (with_reducible refine Keep.alloc ?_ _) | (with_reducible refine Keep.setCell ?_ _ (fun h => absurd h (by omega))) | (with_reducible refine Keep.drewN ?_ _) | (with_reducible refine Keep.drew ?_))))
  have Hb3 := Lib.hid B3
  have Hb4 := Lib.hid B4
  clear B3 B4
  generalize (w.alloc (.cells #[.slice oa a.of.length ca, .int .i64 a.kind, .int .i64 a.to] 24)).alloc (.cells #[.slice ob b.of.length cb, .int .i64 b.kind, .int .i64 b.to] 24) = w0 at *
  generalize hb4 : w.heap.size + 1 = b4 at Hb4 ⊢
  generalize hb3 : w.heap.size = b3 at Hb3 ⊢
  have h34 : ¬ b3 = b4 := by omega
  clear hb4 hb3
  obtain ⟨b30, b31, b32, _, _, _, b3l⟩ := Hb3.out.three
  obtain ⟨b40, b41, b42, _, _, _, b4l⟩ := Hb4.out.three
  go_wp2_with fail
  refine (rowFact_any _).mono ?_
  rintro e w1 ⟨rfl, hk⟩
  have k1 : Keep NoS w0 w1 := Keep.trans (by (repeat' (first | (with_reducible assumption) | (with_reducible exact HK.out) | (with_reducible exact Keep.refl _ _) | (with_reducible refine Keep.alloc ?_ _) | (with_reducible refine Keep.setCell ?_ _ (fun h => absurd h (by omega))) | (with_reducible refine Keep.drewN ?_ _) | (with_reducible refine Keep.drew ?_)))) hk fun _ _ _ h => h
  have K1 := Lib.hid (K0.out.both k1)
  have Hb3 := Lib.hid (Hb3.out.keep k1)
  have Hb4 := Lib.hid (Hb4.out.keep k1)
  clear b30 b31 b32 b3l b40 b41 b42 b4l hk k1
  obtain ⟨b30, b31, b32, _, _, _, b3l⟩ := Hb3.out.three
  obtain ⟨b40, b41, b42, _, _, _, b4l⟩ := Hb4.out.three
  go_wp2_with fail
  refine ((CA _ K1.out).out).mono ?_
  rintro e w2 ⟨rfl, hk⟩
  have k2 : Keep NoS w1 w2 := Keep.trans (by (repeat' (first | (with_reducible assumption) | (with_reducible exact HK.out) | (with_reducible exact Keep.refl _ _) | (with_reducible refine Keep.alloc ?_ _) | (with_reducible refine Keep.setCell ?_ _ (fun h => absurd h (by omega))) | (with_reducible refine Keep.drewN ?_ _) | (with_reducible refine Keep.drew ?_)))) hk fun _ _ _ h => h
  have K2 := Lib.hid (K1.out.both k2)
  have Hb3 := Lib.hid (Hb3.out.keep k2)
  have Hb4 := Lib.hid (Hb4.out.keep k2)
  clear b30 b31 b32 b3l b40 b41 b42 b4l hk k2 CA
  obtain ⟨b30, b31, b32, _, _, _, b3l⟩ := Hb3.out.three
  obtain ⟨b40, b41, b42, _, _, _, b4l⟩ := Hb4.out.three
  have b3n0 : ¬ b3 = w2.heap.size := by omega
  have b4n0 : ¬ b4 = w2.heap.size := by omega
  go_wp2_with fail
  refine ((CB _ (K2.out.alloc _)).out).mono ?_
  rintro e w3 ⟨rfl, hk⟩
  have Bb9 : Blk w3 (w2.heap.size) #[.int .i64 p1, .int .i64 p2] := Blk.keep (by (repeat (first | (with_reducible assumption) | (refine blk_at _ _ ?_; simp; done) | (refine Blk.old ?_ _)))) hk
  have k3 : Keep NoS w2 w3 := Keep.trans (by (repeat' (first | (with_reducible assumption) | (with_reducible exact HK.out) | (with_reducible exact Keep.refl _ _) | (with_reducible refine Keep.alloc ?_ _) | (with_reducible refine Keep.setCell ?_ _ (fun h => absurd h (by omega))) | (with_reducible refine Keep.drewN ?_ _) | (with_reducible refine Keep.drew ?_)))) hk fun _ _ _ h => h
  have K3 := Lib.hid (K2.out.both k3)
  have Hb3 := Lib.hid (Hb3.out.keep k3)
  have Hb4 := Lib.hid (Hb4.out.keep k3)
  have Hb9 := Lib.hid Bb9
  clear b30 b31 b32 b3l b40 b41 b42 b4l b3n0 b4n0 hk Bb9 k3 CB
  generalize w2.heap.size = b9 at *
  obtain ⟨b30, b31, b32, _, _, _, b3l⟩ := Hb3.out.three
  obtain ⟨b40, b41, b42, _, _, _, b4l⟩ := Hb4.out.three
  obtain ⟨b90, b91, _, _, b9l⟩ := Hb9.out.two
  have n3 : ¬ b3 = w3.heap.size := by omega
  have n4 : ¬ b4 = w3.heap.size := by omega
  have n9 : ¬ b9 = w3.heap.size := by omega
  have HK := K3
  by_cases hp : p1 = 0
  case neg =>
    obtain rfl := HX.out.1 hp
    have e1 : (p1 != 0) = true := by rw [bne_iff_ne]; exact hp
    have e2 : (p1 == 0) = false := by rw [beq_eq_false_iff_ne]; exact hp
    go_wp2
    go_ret
    exact ⟨rfl, by (repeat' (first | (with_reducible assumption) | (with_reducible exact HK.out) | (with_reducible exact Keep.refl _ _) | (with_reducible refine Keep.alloc ?_ _) | (with_reducible refine Keep.setCell ?_ _ (fun h => absurd h (by omega))) | (with_reducible refine Keep.drewN ?_ _) | (with_reducible refine Keep.drew ?_)))⟩
  have e1 : (p1 != 0) = false := by rw [bne_eq_false_iff_eq]; exact hp
  have e2 : (p1 == 0) = true := by rw [beq_iff_eq]; exact hp
  by_cases hq : q1 = 0
  case neg =>
    have e3 : (q1 != 0) = true := by rw [bne_iff_ne]; exact hq
    go_wp2
    go_ret
    exact ⟨rfl, by (repeat' (first | (with_reducible assumption) | (with_reducible exact HK.out) | (with_reducible exact Keep.refl _ _) | (with_reducible refine Keep.alloc ?_ _) | (with_reducible refine Keep.setCell ?_ _ (fun h => absurd h (by omega))) | (with_reducible refine Keep.drewN ?_ _) | (with_reducible refine Keep.drew ?_)))⟩
  have e3 : (q1 != 0) = false := by rw [bne_eq_false_iff_eq]; exact hq
  by_cases ka : a.kind = 3
  case pos =>
    have e4 : (a.kind == 3) = true := by rw [beq_iff_eq]; exact ka
    go_wp2
    go_ret
    exact ⟨rfl, by (repeat' (first | (with_reducible assumption) | (with_reducible exact HK.out) | (with_reducible exact Keep.refl _ _) | (with_reducible refine Keep.alloc ?_ _) | (with_reducible refine Keep.setCell ?_ _ (fun h => absurd h (by omega))) | (with_reducible refine Keep.drewN ?_ _) | (with_reducible refine Keep.drew ?_)))⟩
  have e4 : (a.kind == 3) = false := by rw [beq_eq_false_iff_ne]; exact ka
  by_cases kb : b.kind = 3
  case pos =>
    have e5 : (b.kind == 3) = true := by rw [beq_iff_eq]; exact kb
    go_wp2
    go_ret
    exact ⟨rfl, by (repeat' (first | (with_reducible assumption) | (with_reducible exact HK.out) | (with_reducible exact Keep.refl _ _) | (with_reducible refine Keep.alloc ?_ _) | (with_reducible refine Keep.setCell ?_ _ (fun h => absurd h (by omega))) | (with_reducible refine Keep.drewN ?_ _) | (with_reducible refine Keep.drew ?_)))⟩
  have e5 : (b.kind == 3) = false := by rw [beq_eq_false_iff_ne]; exact kb
  have oka := HPA.out hp
  have okb := HPB.out hq
  have hX := HX.out.2 hp
  have hY := HY.out.2 hq
  have HLAW := Lib.hid (plus_holds (nums := nums) oka okb rfl ka kb)
  rw [← hX, ← hY] at HLAW
  have HOK := Lib.hid (And.intro oka okb)
  have h12 := oka.n12
  have hla := oka.len
  have hlb := okb.len
  have hta := oka.fto
  have htb := okb.fto
  have hka := oka.kind
  have hkb := okb.kind
  unfold fitI at hta htb
  have hww : IntKind.i64.wrap (a.to + b.to) = a.to + b.to := Go.IntWalk.i64_in _ (by omega)
  have HKT : Hid (I64 (max a.kind b.kind) ∧ I64 (a.to + b.to)) := Lib.hid (by unfold I64; omega)
  clear HX HY HPA HPB oka okb hX hY ka kb hp hq hka hkb hta htb
  go_wp2
  have HK0 : Hid (Keep NoS w ((w3.alloc (.cells #[.int .i64 q1, .int .i64 q2] 26)).alloc (.cells #[.slice none 0 0, .int .i64 (max a.kind b.kind), .int .i64 (a.to + b.to)] 24))) := Lib.hid (by (repeat' (first | (with_reducible assumption) | (with_reducible exact HK.out) | (with_reducible exact Keep.refl _ _) | (with_reducible refine Keep.alloc ?_ _) | (with_reducible refine Keep.setCell ?_ _ (fun h => absurd h (by omega))) | (with_reducible refine Keep.drewN ?_ _) | (with_reducible refine Keep.drew ?_))))
  have B12 : Blk ((w3.alloc (.cells #[.int .i64 q1, .int .i64 q2] 26)).alloc (.cells #[.slice none 0 0, .int .i64 (max a.kind b.kind), .int .i64 (a.to + b.to)] 24)) (w3.heap.size + 1) #[.slice none 0 0, .int .i64 (max a.kind b.kind), .int .i64 (a.to + b.to)] := by (repeat (first | (refine blk_at _ _ ?_; simp; done) | (refine Blk.old ?_ _)))
  have HB12 := Lib.hid B12
  have HB3 : Hid (Blk ((w3.alloc (.cells #[.int .i64 q1, .int .i64 q2] 26)).alloc (.cells #[.slice none 0 0, .int .i64 (max a.kind b.kind), .int .i64 (a.to + b.to)] 24)) b3 #[.slice oa a.of.length ca, .int .i64 a.kind, .int .i64 a.to]) := Lib.hid ((Hb3.out.old _).old _)
  have HB4 : Hid (Blk ((w3.alloc (.cells #[.int .i64 q1, .int .i64 q2] 26)).alloc (.cells #[.slice none 0 0, .int .i64 (max a.kind b.kind), .int .i64 (a.to + b.to)] 24)) b4 #[.slice ob b.of.length cb, .int .i64 b.kind, .int .i64 b.to]) := Lib.hid ((Hb4.out.old _).old _)
  have HSZ : Hid (w.heap.size ≤ w3.heap.size + 1 ∧ w3.heap.size + 1 + 1 = (((w3.alloc (.cells #[.int .i64 q1, .int .i64 q2] 26)).alloc (.cells #[.slice none 0 0, .int .i64 (max a.kind b.kind), .int .i64 (a.to + b.to)] 24))).heap.size) := Lib.hid (by have := K3.out.size; simp; omega)
  have h312 : b3 < w3.heap.size + 1 := by omega
  have h412 : b4 < w3.heap.size + 1 := by omega
  have H12 := Lib.hid (And.intro h312 h412)
  clear b30 b31 b32 b3l b40 b41 b42 b4l b90 b91 b9l n3 n4 n9 K3 HK Hb3 Hb4 Hb9 B12 h34 h312 h412 e1 e2 e3 e4 e5
  generalize ((w3.alloc (.cells #[.int .i64 q1, .int .i64 q2] 26)).alloc (.cells #[.slice none 0 0, .int .i64 (max a.kind b.kind), .int .i64 (a.to + b.to)] 24)) = wl at *
  generalize w3.heap.size + 1 = b12 at *
  go_loopw [13] (fun s wr => ∃ j : Nat, j ≤ nums.length ∧ s = .int .i64 j ∧ Keep NoS w wr ∧ b12 < wr.heap.size ∧ Blk wr b3 #[.slice oa a.of.length ca, .int .i64 a.kind, .int .i64 a.to] ∧ Blk wr b4 #[.slice ob b.of.length cb, .int .i64 b.kind, .int .i64 b.to] ∧ ∃ u, Blk wr b12 #[u, .int .i64 (max a.kind b.kind), .int .i64 (a.to + b.to)] ∧ OwnI wr (b12 + 1) u (plusL a b j)) (fun s _ => (nums.length - intOf s).toNat)
  case atStart => exact ⟨0, by omega, rfl, HK0.out, by have := HSZ.out.2; omega, HB3.out, HB4.out, _, HB12.out, OwnI.nil _ _⟩
  case round =>
    obtain ⟨j, hj, rfl, hkr, hbs, hb3, hb4, u, hb12, hou⟩ := hrel
    have HKR := Lib.hid hkr
    have HB3 := Lib.hid hb3
    have HB4 := Lib.hid hb4
    have HB12 := Lib.hid hb12
    have HOU := Lib.hid hou
    obtain ⟨og, cg, hu⟩ := hou.len
    rw [plusL_length] at hu
    subst hu
    clear hkr hb3 hb4 hb12 hou HK0
    by_cases hjl : j < nums.length
    case neg =>
      have hlt : ¬ (j : Int) < (nums.length : Int) := by omega
      obtain rfl : j = nums.length := by omega
      have hou := HOU.out
      have HOC := Lib.hid hou.cap
      have hi64 : ∀ x ∈ plusL a b nums.length, I64 x := fun x hx => by
        obtain ⟨m, _, rfl⟩ := List.mem_map.1 hx
        have := plusC_bd HOK.out.1.fit HOK.out.2.fit m
        unfold I64
        omega
      have HOI : Hid (IsInts wr (.slice og nums.length cg) (plusR a b nums.length).of) := Lib.hid (OwnI.ints hou hi64)
      have CS := fun w' (k : Keep NoS wr w') => Lib.hid (rowHolds_any w' _ (plusR a b nums.length) _ nums ⟨_, rfl, HOI.out.keep k, HKT.out.1, HKT.out.2, HOC.out⟩ (HN.out.keep (HKR.out.both k)))
      obtain ⟨z, hzo, _, hz2⟩ := holdsV_form (plusR a b nums.length) nums
      rw [hzo] at CS
      have HZ := Lib.hid hz2
      generalize ptF (plusR a b nums.length) nums = f at *
      obtain ⟨f1, f2⟩ := f
      have CS : ∀ w' (k : Keep NoS wr w'), Hid (Calls Try.prog 37 #[.agg #[.slice og nums.length cg, .int .i64 (max a.kind b.kind), .int .i64 (a.to + b.to)], .slice on nums.length cn] w' fun e w'' => e = .returned (.tuple #[.bool z, .agg #[.int .i64 f1, .int .i64 f2]]) ∧ Keep NoS w' w'') := CS
      simp only at HZ
      have HLAW2 : Hid (f1 = 0 → x = true → y = true → z = true) := Lib.hid (fun h0 h1 h2 => by rw [HZ.out h0]; exact HLAW.out h1 h2)
      obtain ⟨p0, p1', p2', _, _, _, l0⟩ := HB12.out.three
      clear hou hi64 HOI hzo hz2 HZ HLAW HOU
      go_wp2_with fail
      refine (CS _ (Keep.refl _ _)).out.mono ?_
      rintro e w6 ⟨rfl, hk6⟩
      have K6 := Lib.hid (HKR.out.both hk6)
      have HK := K6
      clear hk6 CS p0 p1' p2' l0
      by_cases hf : f1 = 0
      · have HL3 := HLAW2.out hf
        have e6 : (f1 != 0) = false := by rw [bne_eq_false_iff_eq]; exact hf
        cases x
        · go_wp2
          go_ret
          exact ⟨rfl, by (repeat' (first | (with_reducible assumption) | (with_reducible exact HK.out) | (with_reducible exact Keep.refl _ _) | (with_reducible refine Keep.alloc ?_ _) | (with_reducible refine Keep.setCell ?_ _ (fun h => absurd h (by omega))) | (with_reducible refine Keep.drewN ?_ _) | (with_reducible refine Keep.drew ?_)))⟩
        · cases y
          · go_wp2
            go_ret
            exact ⟨rfl, by (repeat' (first | (with_reducible assumption) | (with_reducible exact HK.out) | (with_reducible exact Keep.refl _ _) | (with_reducible refine Keep.alloc ?_ _) | (with_reducible refine Keep.setCell ?_ _ (fun h => absurd h (by omega))) | (with_reducible refine Keep.drewN ?_ _) | (with_reducible refine Keep.drew ?_)))⟩
          · obtain rfl : z = true := HL3 rfl rfl
            go_wp2
            go_ret
            exact ⟨rfl, by (repeat' (first | (with_reducible assumption) | (with_reducible exact HK.out) | (with_reducible exact Keep.refl _ _) | (with_reducible refine Keep.alloc ?_ _) | (with_reducible refine Keep.setCell ?_ _ (fun h => absurd h (by omega))) | (with_reducible refine Keep.drewN ?_ _) | (with_reducible refine Keep.drew ?_)))⟩
      · have e6 : (f1 != 0) = true := by rw [bne_iff_ne]; exact hf
        go_wp2
        go_ret
        exact ⟨rfl, by (repeat' (first | (with_reducible assumption) | (with_reducible exact HK.out) | (with_reducible exact Keep.refl _ _) | (with_reducible refine Keep.alloc ?_ _) | (with_reducible refine Keep.setCell ?_ _ (fun h => absurd h (by omega))) | (with_reducible refine Keep.drewN ?_ _) | (with_reducible refine Keep.drew ?_)))⟩
    case pos =>
      have hlt : (j : Int) < (nums.length : Int) := by omega
      have hbd := plusC_bd HOK.out.1.fit HOK.out.2.fit j
      obtain ⟨p0, p1', p2', _, _, _, l0⟩ := HB12.out.three
      obtain ⟨s0, s1, s2, _, _, _, l1⟩ := HB3.out.three
      obtain ⟨r0, r1, r2, _, _, _, l2⟩ := HB4.out.three
      have HST := Lib.hid (plusL_succ a b j)
      have hcd : plusC a b j = a.of.getD j 0 + b.of.getD j 0 := rfl
      generalize plusC a b j = c at *
      have k4 : Keep NoS wr (wr.alloc (.cells #[.int .i64 c] TI)) := (Keep.refl _ _).alloc _
      have hs4 : b12 + 1 ≤ (wr.alloc (.cells #[.int .i64 c] TI)).heap.size := by have := k4.size; omega
      have hlp := plusL_length a b j
      obtain ⟨v5, w5, hr5, ho5, hg5⟩ := app_ints (HOU.out.keep k4) (one_int wr c (by unfold I64; omega)) (by rw [hlp]; simp; omega) hs4
      have hne : ∀ x, x < b12 + 1 → ∀ y, (Value.slice og j cg).ownBlock = some y → y ≠ x := fun x hx y hy => by have := HOU.out.block y hy; omega
      have hk0 := Nat.le_trans HSZ.out.1 (Nat.le_succ b12)
      have K5 := Lib.hid ((HKR.out.both k4).grown hg5 fun k hk => by have := HOU.out.block k hk; omega)
      have HB35 := Lib.hid ((HB3.out.keep k4).grown hg5 (hne _ (by have := H12.out.1; omega)))
      have HB45 := Lib.hid ((HB4.out.keep k4).grown hg5 (hne _ (by have := H12.out.2; omega)))
      have HB125 := Lib.hid ((HB12.out.keep k4).grown hg5 (hne _ (by omega)))
      rw [← HST.out] at ho5
      have HO5 := Lib.hid ho5
      have hbs5 := Nat.lt_of_lt_of_le hs4 (Nat.le_succ_of_le hg5.size)
      obtain ⟨og', cg', hu'⟩ := ho5.len
      rw [plusL_length] at hu'
      subst hu'
      obtain ⟨e0, e1', e2', f0, f1, f2, l5⟩ := HB125.out.three
      clear k4 hs4 hlp ho5 hg5 hne hk0 hbs5 HST
      have ga := fun h : j < a.of.length => (HIA.out.keep HKR.out).at h
      have gb := fun h : j < b.of.length => (HIB.out.keep HKR.out).at h
      have da := fun h : j < a.of.length => show a.of.getD j 0 = a.of[j] from by rw [List.getD_eq_getElem?_getD, List.getElem?_eq_getElem h]; rfl
      have db := fun h : j < b.of.length => show b.of.getD j 0 = b.of[j] from by rw [List.getD_eq_getElem?_getD, List.getElem?_eq_getElem h]; rfl
      have na := fun h : ¬ j < a.of.length => getD_over (l := a.of) (i := j) (by omega)
      have nb := fun h : ¬ j < b.of.length => getD_over (l := b.of) (i := j) (by omega)
      by_cases hja : j < a.of.length
      case pos =>
        by_cases hjb : j < b.of.length
        case pos =>
          have hla1 : (j : Int) < (a.of.length : Int) := by omega
          have hlb1 : (j : Int) < (b.of.length : Int) := by omega
          obtain ⟨g1, o1, cp1, hs1, hg1, hx1⟩ := ga hja
          simp at hs1
          obtain ⟨rfl, rfl⟩ := hs1
          have hfa := HOK.out.1.fit _ (List.getElem_mem hja)
          rw [da hja] at hcd
          generalize a.of[j] = x at *
          unfold fitI at hfa
          obtain ⟨g2, o2, cp2, hs2, hg2, hx2⟩ := gb hjb
          simp at hs2
          obtain ⟨rfl, rfl⟩ := hs2
          have hfb := HOK.out.2.fit _ (List.getElem_mem hjb)
          rw [db hjb] at hcd
          generalize b.of[j] = y at *
          unfold fitI at hfb
          have hw1 : IntKind.i64.wrap x = x := Go.IntWalk.i64_in _ (by omega)
          have hw2 : IntKind.i64.wrap (x + y) = c := by rw [hcd]; exact Go.IntWalk.i64_in _ (by omega)
          clear ga gb da db na nb hcd hfa hfb
          go_wp2_with (at_builtin; refine wpList_app_run _ _ 22 _ _ rfl rfl rfl rfl hr5 ?_)
          go_roundw
          case rel => exact ⟨j + 1, by omega, by go_num, keep_at K5.out _ (Nat.le_trans HSZ.out.1 (Nat.le_refl _)), Nat.lt_of_lt_of_le l5 (keep_setCell _ _ _ _).size, HB35.out.setOther _ _ (by have := H12.out.1; omega), HB45.out.setOther _ _ (by have := H12.out.2; omega), _, by simpa using Blk.set HB125.out 0 _, World.ownsRow_other HO5.out (by intro hh; have := HO5.out.block _ hh; omega)⟩
          case measure => simp [intOf]; omega
        case neg =>
          have hla1 : (j : Int) < (a.of.length : Int) := by omega
          have hlb1 : ¬ (j : Int) < (b.of.length : Int) := by omega
          obtain ⟨g1, o1, cp1, hs1, hg1, hx1⟩ := ga hja
          simp at hs1
          obtain ⟨rfl, rfl⟩ := hs1
          have hfa := HOK.out.1.fit _ (List.getElem_mem hja)
          rw [da hja] at hcd
          generalize a.of[j] = x at *
          unfold fitI at hfa
          rw [nb hjb] at hcd
          have hw1 : IntKind.i64.wrap x = c := by rw [hcd, Int.add_zero]; exact Go.IntWalk.i64_in _ (by omega)
          clear ga gb da db na nb hcd hfa
          go_wp2_with (at_builtin; refine wpList_app_run _ _ 22 _ _ rfl rfl rfl rfl hr5 ?_)
          go_roundw
          case rel => exact ⟨j + 1, by omega, by go_num, keep_at K5.out _ (Nat.le_trans HSZ.out.1 (Nat.le_refl _)), Nat.lt_of_lt_of_le l5 (keep_setCell _ _ _ _).size, HB35.out.setOther _ _ (by have := H12.out.1; omega), HB45.out.setOther _ _ (by have := H12.out.2; omega), _, by simpa using Blk.set HB125.out 0 _, World.ownsRow_other HO5.out (by intro hh; have := HO5.out.block _ hh; omega)⟩
          case measure => simp [intOf]; omega
      case neg =>
        by_cases hjb : j < b.of.length
        case pos =>
          have hla1 : ¬ (j : Int) < (a.of.length : Int) := by omega
          have hlb1 : (j : Int) < (b.of.length : Int) := by omega
          rw [na hja] at hcd
          obtain ⟨g2, o2, cp2, hs2, hg2, hx2⟩ := gb hjb
          simp at hs2
          obtain ⟨rfl, rfl⟩ := hs2
          have hfb := HOK.out.2.fit _ (List.getElem_mem hjb)
          rw [db hjb] at hcd
          generalize b.of[j] = y at *
          unfold fitI at hfb
          have hw1 : IntKind.i64.wrap y = c := by rw [hcd, Int.zero_add]; exact Go.IntWalk.i64_in _ (by omega)
          clear ga gb da db na nb hcd hfb
          go_wp2_with (at_builtin; refine wpList_app_run _ _ 22 _ _ rfl rfl rfl rfl hr5 ?_)
          go_roundw
          case rel => exact ⟨j + 1, by omega, by go_num, keep_at K5.out _ (Nat.le_trans HSZ.out.1 (Nat.le_refl _)), Nat.lt_of_lt_of_le l5 (keep_setCell _ _ _ _).size, HB35.out.setOther _ _ (by have := H12.out.1; omega), HB45.out.setOther _ _ (by have := H12.out.2; omega), _, by simpa using Blk.set HB125.out 0 _, World.ownsRow_other HO5.out (by intro hh; have := HO5.out.block _ hh; omega)⟩
          case measure => simp [intOf]; omega
        case neg =>
          have hla1 : ¬ (j : Int) < (a.of.length : Int) := by omega
          have hlb1 : ¬ (j : Int) < (b.of.length : Int) := by omega
          rw [na hja] at hcd
          rw [nb hjb] at hcd
          obtain rfl : c = 0 := hcd
          clear ga gb da db na nb
          go_wp2_with (at_builtin; refine wpList_app_run _ _ 22 _ _ rfl rfl rfl rfl hr5 ?_)
          go_roundw
          case rel => exact ⟨j + 1, by omega, by go_num, keep_at K5.out _ (Nat.le_trans HSZ.out.1 (Nat.le_refl _)), Nat.lt_of_lt_of_le l5 (keep_setCell _ _ _ _).size, HB35.out.setOther _ _ (by have := H12.out.1; omega), HB45.out.setOther _ _ (by have := H12.out.2; omega), _, by simpa using Blk.set HB125.out 0 _, World.ownsRow_other HO5.out (by intro hh; have := HO5.out.block _ hh; omega)⟩
          case measure => simp [intOf]; omega
end Go.Proofs.Ytihcbmkjfacooaa
