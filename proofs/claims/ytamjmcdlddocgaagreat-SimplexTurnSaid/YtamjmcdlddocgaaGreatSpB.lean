/- Package simplex's pivoted. -/
import Derived.Test.YtamjmcdlddocgaaGreatSpP
import Derived.Test.YtamjmcdlddocgaaGreatFqO
import Derived.Test.YtamjmcdlddocgaaGreatOwnT
namespace Go.Proofs.YtamjmcdlddocgaaGreat
open Go.ChangeShapes Go.WideShapes Go.RowKit
set_option linter.unusedVariables false
set_option linter.unusedSimpArgs false
def fitL (t : List (List Fq)) (r c i k : Nat) : Bool := (List.range k).all fun j => decide (Fits (pivQ t r c i j))
def pvOK (t : List (List Fq)) (r c m : Nat) : Bool := (List.range t.length).all fun i => fitL t r c i m
def pvL (t : List (List Fq)) (r c i k : Nat) : List Fq := (List.range k).map fun j => fqOf (pivQ t r c i j)
def pvLs (t : List (List Fq)) (r c m n : Nat) : List (List Fq) := (List.range n).map fun i => pvL t r c i m
def pvT (t : List (List Fq)) (r c m : Nat) : List (List Fq) := if pvOK t r c m = true then pvLs t r c m t.length else []
def pvC (t : List (List Fq)) (r c m : Nat) : Int := if pvOK t r c m = true then 0 else 10
theorem fitL_succ (t : List (List Fq)) (r c i k : Nat) : fitL t r c i (k + 1) = (fitL t r c i k && decide (Fits (pivQ t r c i k))) := by
 unfold fitL
 rw [List.range_succ, List.all_append]
 simp
theorem pvL_succ (t : List (List Fq)) (r c i k : Nat) : pvL t r c i (k + 1) = pvL t r c i k ++ [fqOf (pivQ t r c i k)] := by
 unfold pvL
 rw [List.range_succ, List.map_append]; rfl
theorem pvLs_succ (t : List (List Fq)) (r c m n : Nat) : pvLs t r c m (n + 1) = pvLs t r c m n ++ [pvL t r c n m] := by
 unfold pvLs
 rw [List.range_succ, List.map_append]; rfl
theorem pvL_len (t : List (List Fq)) (r c i k : Nat) : (pvL t r c i k).length = k := by simp [pvL]
theorem pvLs_len (t : List (List Fq)) (r c m n : Nat) : (pvLs t r c m n).length = n := by simp [pvLs]
theorem pvOK_no {t : List (List Fq)} {r c m i k : Nat} (hi : i < t.length) (hk : k < m) (h : ¬ Fits (pivQ t r c i k)) : pvOK t r c m = false := by
 rcases hb : pvOK t r c m with _ | _
 ·rfl
 ·exfalso
  have h1 := List.all_eq_true.1 (List.all_eq_true.1 hb i (List.mem_range.2 hi)) k (List.mem_range.2 hk)
  exact h (of_decide_eq_true h1)
theorem pvOK_yes {t : List (List Fq)} {r c m : Nat} (h : ∀ i, i < t.length → fitL t r c i m = true) : pvOK t r c m = true :=
 List.all_eq_true.2 fun i hi => h i (List.mem_range.1 hi)
theorem pv_i64 {t : List (List Fq)} {r c m n : Nat} : ∀ l ∈ pvLs t r c m n, ∀ g ∈ l, I64 g.N ∧ I64 g.D := by
 intro l hl g hg
 obtain ⟨i, _, rfl⟩ := List.mem_map.1 hl
 obtain ⟨j, _, rfl⟩ := List.mem_map.1 hg
 exact fqOf_i64 _
theorem OwnTL.set2 {w : World} {base : Nat} {v u : Value} {ls : List (List Fq)} {L : List Fq} (h : OwnTL w base v ls u L) {b : Nat} (hb : b < base) {p q : Value} : OwnTL ((w.setCell ⟨b, 0, none⟩ p).setCell ⟨b, 1, none⟩ q) base v ls u L := by
 obtain ⟨xs, h1, h2, h3, h4, h5⟩ := h
 refine ⟨xs, h1, fun x hx => ⟨own_set2 (h2 x hx).1 hb, (h2 x hx).2⟩, ?_, h4, own_set2 h5 hb⟩
 have hne : v.ownBlock ≠ some b := fun e => by have := h3.block b e; omega
 exact ownsRow_setCell_other (ownsRow_setCell_other h3 hne p) hne q
theorem OwnG.lower {α : Type} {T : TypeId} {K : Nat} {c : α → List Value} {w : World} {base base' : Nat} {v : Value} {l : List α} (h : OwnG T K c w base v l) (hb : base' ≤ base) : OwnG T K c w base' v l := by
 obtain ⟨hl, h | ⟨g, cap, cur, hv, hb', hg, hl', hm, hs, ht⟩⟩ := h
 ·exact ⟨hl, .inl h⟩
 ·exact ⟨hl, .inr ⟨g, cap, cur, hv, Nat.le_trans hb hb', hg, hl', hm, hs, ht⟩⟩
theorem OwnTL.lower {w : World} {base base' : Nat} {v u : Value} {ls : List (List Fq)} {L : List Fq} (h : OwnTL w base v ls u L) (hb : base' ≤ base) : OwnTL w base' v ls u L := by
 obtain ⟨xs, h1, h2, h3, h4, h5⟩ := h
 exact ⟨xs, h1, fun x hx => ⟨OwnG.lower (h2 x hx).1 hb, (h2 x hx).2⟩, h3.lower hb, h4, OwnG.lower h5 hb⟩
theorem pvT_i64 {t : List (List Fq)} {r c m : Nat} : ∀ l ∈ pvT t r c m, ∀ g ∈ l, I64 g.N ∧ I64 g.D := by
 unfold pvT
 split
 ·exact pv_i64
 ·intro l h; cases h
theorem nil_tab (w : World) : IsTab w (.slice none 0 0) [] := ⟨none, 0, rfl, by simp, by simp, fun h => absurd rfl h⟩
def pst9 (g : Nat) (st sr : Value) (ri ki ci : Int) (pr pk pc : Value) (fk fc nk nc : Value) (yb yc : Bool) (yS yU : ByteArray) (S : Nat → Bool) : Nat → Value → World → Prop
 | 0, v, _ => v = st
 | 1, v, _ => v = .int .i64 ri
 | 2, v, _ => v = pr
 | 3, v, _ => v = sr
 | 4, v, _ => v = .int .i64 ki
 | 5, v, _ => v = pk
 | 6, v, _ => v = fk
 | 7, v, _ => v = nk
 | 8, v, _ => v = st
 | 9, v, _ => v = .int .i64 ri
 | 10, v, _ => v = pr
 | 11, v, _ => v = sr
 | 12, v, _ => v = .int .i64 ci
 | 13, v, _ => v = pc
 | 14, v, _ => v = fc
 | 15, v, _ => v = nc
 | 16, v, _ => v = .agg #[.bool yb, .string yS, .bool yc, .string yU]
 | 17, v, w => ∃ b, v = .pointer (some ⟨b, 0, none⟩) ∧ g ≤ b ∧ (S 18 = false → Blk w b #[.bool false, .string ⟨#[]⟩, .bool false, .string ⟨#[]⟩]) ∧ (S 18 = true → Blk w b #[.bool yb, .string yS, .bool yc, .string yU])
 | 18, _, _ => True
 | _, _, _ => True
theorem pst9_keep {g : Nat} {st sr : Value} {ri ki ci : Int} {pr pk pc : Value} {fk fc nk nc : Value} {yb yc : Bool} {yS yU : ByteArray} {S : Nat → Bool} {w w' : World} {e : Nat} (he : e ≠ 18) (k : Keep NoS w w') : ∀ (d : Nat) (v : Value), pst9 g st sr ri ki ci pr pk pc fk fc nk nc yb yc yS yU S d v w → pst9 g st sr ri ki ci pr pk pc fk fc nk nc yb yc yS yU (mark S e) d v w'
 | 0, v, h => h
 | 1, v, h => h
 | 2, v, h => h
 | 3, v, h => h
 | 4, v, h => h
 | 5, v, h => h
 | 6, v, h => h
 | 7, v, h => h
 | 8, v, h => h
 | 9, v, h => h
 | 10, v, h => h
 | 11, v, h => h
 | 12, v, h => h
 | 13, v, h => h
 | 14, v, h => h
 | 15, v, h => h
 | 16, v, h => h
 | 17, v, h => by
  obtain ⟨b, e1, e2, h1, h2⟩ := h
  refine ⟨b, e1, e2, fun hm => (h1 (markS_false hm)).keep k, fun hm => (h2 ?_).keep k⟩
  unfold mark at hm
  rwa [if_neg (by omega)] at hm
 | 18, v, h => h
 | n + 19, v, h => trivial
theorem pst9_store {g : Nat} {st sr : Value} {ri ki ci : Int} {pr pk pc : Value} {fk fc nk nc : Value} {yb yc : Bool} {yS yU : ByteArray} {S : Nat → Bool} {w w' : World} {σ : Nat → Value} {b14 : Nat} (e17 : σ 17 = .pointer (some ⟨b14, 0, none⟩)) (hb : Blk w' b14 #[.bool yb, .string yS, .bool yc, .string yU]) : ∀ (d : Nat), d ≠ 18 → pst9 g st sr ri ki ci pr pk pc fk fc nk nc yb yc yS yU S d (σ d) w → pst9 g st sr ri ki ci pr pk pc fk fc nk nc yb yc yS yU (mark S 18) d (σ d) w'
 | 0, _, h => h
 | 1, _, h => h
 | 2, _, h => h
 | 3, _, h => h
 | 4, _, h => h
 | 5, _, h => h
 | 6, _, h => h
 | 7, _, h => h
 | 8, _, h => h
 | 9, _, h => h
 | 10, _, h => h
 | 11, _, h => h
 | 12, _, h => h
 | 13, _, h => h
 | 14, _, h => h
 | 15, _, h => h
 | 16, _, h => h
 | 17, _, h => by
  obtain ⟨b, e1, e2, h1, h2⟩ := h
  rw [e17] at e1
  cases e1
  exact ⟨b14, e17, e2, fun hm => (by rw [markS_self] at hm; cases hm), fun _ => hb⟩
 | 18, hd, _ => absurd rfl hd
 | n + 19, _, h => trivial
set_option maxRecDepth 100000 in
set_option maxHeartbeats 16000000 in
theorem pivoted_any (w : World) (v : Value) (t : List (List Fq)) (r c m : Nat) (h : IsTab w v t) (ht : TabOK t m) (hr : r < t.length) (hc : c < m) (h0 : tq t r c ≠ 0) :
  Calls Tryz.prog 21 #[v, .int .i64 r, .int .i64 c] w fun e w' => ∃ u, e = .returned (.tuple #[u, .agg #[.int .i64 (pvC t r c m), .int .i64 0]]) ∧ OwnTL w' w.heap.size u (pvT t r c m) (.slice none 0 0) [] ∧ Keep NoS w w' := by
 have HT := Lib.hid h
 have HOK := Lib.hid ht
 have h40 := ht.h40
 have h12 := ht.h12
 obtain ⟨oa, ca, rfl, _, hma⟩ := h.len
 unfold maxLen at hma
 obtain ⟨b, o, svr, rfl, hb, hcr, hfr⟩ := HT.out.at hr
 obtain ⟨orr, cr, rfl, _, hmr⟩ := hfr.len
 unfold maxLen at hmr
 have hlr := ht.len _ (List.getElem_mem hr)
 have hcl : c < t[r].length := by rw [hlr]; exact hc
 obtain ⟨br, o2, rfl, hbr, c0, c1⟩ := hfr.at hcl
 have HFR := Lib.hid hfr
 have HLR := Lib.hid hlr
 rw [hlr] at hcr
 have HCR := Lib.hid hcr
 have HC0 := Lib.hid c0
 have HC1 := Lib.hid c1
 have HGC := Lib.hid (ht.ok _ (List.getElem_mem hr) _ (List.getElem_mem hcl))
 have htq : tq t r c = (t[r][c]).q := tq_at hr hcl
 have HTQ := Lib.hid htq
 have H0 := Lib.hid h0
 have NBP : Hid (∀ {i k : Nat}, i < t.length → k < m → NB 10 (pivQ t r c i k)) := Lib.hid (fun hi hk => nb_piv ht hr hc hi hk h0)
 generalize hgc : t[r][c] = gc at *
 clear h ht hcr hfr hcl c0 c1 htq h0 hlr hgc
 have hrI : (r : Int) < (t.length : Int) := by omega
 have hcI : (c : Int) < (m : Int) := by omega
 go_enter Tryz.func21, Tryz.ntmps21
 go_wp2_with fail
 have HB7 : Hid (Blk (w.alloc (.cells #[.int .i64 0, .int .i64 0] 26)) w.heap.size #[.int .i64 0, .int .i64 0]) := Lib.hid (blk_at _ _ rfl)
 have HK0 : Hid (Keep NoS w (w.alloc (.cells #[.int .i64 0, .int .i64 0] 26))) := Lib.hid (by (repeat' (with_reducible first | assumption | exact HK.out | exact keR | refine keA ?_ | refine keS ?_ fun h => absurd h (by omega) | refine keN ?_ | refine keD ?_)))
 generalize w.alloc (.cells #[.int .i64 0, .int .i64 0] 26) = w0 at *
 have hlt7 := HB7.out.lt
 generalize hb7 : w.heap.size = b7 at HB7 hlt7 ⊢
 have HS7 : Hid (w.heap.size ≤ b7) := Lib.hid (by omega)
 have HS70 : Hid (b7 < w0.heap.size) := Lib.hid hlt7
 have HW0 : Hid (w.heap.size ≤ w0.heap.size) := Lib.hid HK0.out.size
 clear hb7 hlt7
 go_loopw [8, 19] (fun s8 s19 wr => ∃ i : Nat, i ≤ t.length ∧ s19 = .int .i64 i ∧ (∀ j, j < i → fitL t r c j m = true) ∧ Keep NoS w wr ∧ Blk wr b7 #[.int .i64 0, .int .i64 0] ∧ w0.heap.size ≤ wr.heap.size ∧ OwnTL wr w0.heap.size s8 (pvLs t r c m i) (.slice none 0 0) []) (fun _ s _ => (t.length - intOf s).toNat)
 case atStart => exact ⟨0, by omega, rfl, fun j hj => by omega, HK0.out, HB7.out, Nat.le_refl _, OwnTL.nil _ _⟩
 case round =>
  obtain ⟨i, hi, rfl, hfi, hkr, hb7, hsz, hou⟩ := hrel
  have HFI := Lib.hid hfi
  have HKR := Lib.hid hkr
  have HB7 := Lib.hid hb7
  have HSR := Lib.hid hsz
  have HOU := Lib.hid hou
  obtain ⟨o8, c8, h8, _⟩ := hou.lenT
  rw [pvLs_len] at h8
  subst h8
  clear hfi hkr hb7 hsz hou HK0
  by_cases hil : i < t.length
  case neg =>
   have hlt : ¬ (i : Int) < (t.length : Int) := by omega
   obtain rfl : i = t.length := by omega
   have hyes := pvOK_yes HFI.out
   have hT : pvT t r c m = pvLs t r c m t.length := by unfold pvT; rw [if_pos hyes]
   have hC : pvC t r c m = 0 := by unfold pvC; rw [if_pos hyes]
   obtain ⟨s0, s1, f0, f1, sl⟩ := HB7.out.two
   have HTC := Lib.hid (And.intro hT hC)
   clear hyes hT hC
   go_wp2
   refine bodyPost_ret (by simp [results, Tryz.results21, go_sem, s0, s1, sl]; rfl) rfl ?_
   exact ⟨_, by rw [HTC.out.2], by rw [HTC.out.1]; exact (HOU.out.set2 HS70.out).lower HW0.out, keep_set2 HKR.out HS7.out _ _⟩
  case pos =>
   have hlt : (i : Int) < (t.length : Int) := by omega
   obtain ⟨b', o', svi, hbo, hb', hci, hfri⟩ := HT.out.at hil
   cases hbo
   obtain ⟨oi, cii, rfl, _, hmi⟩ := hfri.len
   unfold maxLen at hmi
   have hli := HOK.out.len _ (List.getElem_mem hil)
   have HFRI := Lib.hid hfri
   have HLI := Lib.hid hli
   rw [hli] at hci
   have hc1 := (HKR.out.cell hb).trans hci
   have hbx := Nat.lt_of_lt_of_le hb HKR.out.size
   clear hci hfri hli hb'
   go_wp2
   clear hc1 hbx
   have HKO := HKR
   have HBO := HB7
   have HSO := HSR
   have HOO := HOU
   clear HKR HB7 HSR HOU
   go_loopw [11, 26] (fun s11 s26 wr => ∃ k : Nat, k ≤ m ∧ s26 = .int .i64 k ∧ fitL t r c i k = true ∧ Keep NoS w wr ∧ Blk wr b7 #[.int .i64 0, .int .i64 0] ∧ w0.heap.size ≤ wr.heap.size ∧ OwnTL wr w0.heap.size (.slice o8 i c8) (pvLs t r c m i) s11 (pvL t r c i k)) (fun _ s _ => (m - intOf s).toNat)
   case atStart => exact ⟨0, by omega, rfl, rfl, HKO.out, HBO.out, HSO.out, HOO.out⟩
   case round =>
    obtain ⟨k, hk, rfl, hfk, hkr, hb7, hsz, hou⟩ := hrel
    have HFK := Lib.hid hfk
    have HKR := Lib.hid hkr
    have HB7 := Lib.hid hb7
    have HSR := Lib.hid hsz
    have HOU := Lib.hid hou
    obtain ⟨o11, c11, h11, _⟩ := hou.lenL
    rw [pvL_len] at h11
    subst h11
    clear hfk hkr hb7 hsz hou HKO HBO HSO HOO
    by_cases hkm : k < m
    case neg =>
     have hltk : ¬ (k : Int) < (m : Int) := by omega
     obtain rfl : k = m := by omega
     have k9 : Keep NoS wr (wr.alloc (.cells #[.slice o11 k c11] 23)) := (Keep.refl _ _).alloc _
     obtain ⟨v1, wA, hr1, ho1, hg1⟩ := (HOU.out.keep k9).line (b := wr.heap.size) (by (repeat (first | (refine blk_at _ _ ?_; simp; done) | (refine Blk.old ?_ _)))) (by rw [pvLs_len]; omega) (Nat.le_trans HSR.out k9.size)
     rw [← pvLs_succ] at ho1
     have HO1 := Lib.hid ho1
     obtain ⟨o1', d1', hs1, _⟩ := ho1.lenT
     rw [pvLs_len] at hs1
     subst hs1
     have hblk := fun kk hh => HOU.out.blockT kk hh
     have K10 := Lib.hid ((HKR.out.both k9).grown hg1 fun kk hh => Nat.le_trans HW0.out (hblk kk hh))
     have HB10 := Lib.hid ((HB7.out.keep k9).grown hg1 fun kk hh => by have := hblk kk hh; have := HS70.out; omega)
     have HS10 : Hid (w0.heap.size ≤ wA.heap.size) := Lib.hid (Nat.le_trans HSR.out (Nat.le_trans k9.size hg1.size))
     have HFI1 : Hid (∀ j, j < i + 1 → fitL t r c j k = true) := Lib.hid (fun j hj => by
      rcases Nat.lt_or_ge j i with h | h
      ·exact HFI.out j h
      ·obtain rfl : j = i := by omega
       exact HFK.out)
     clear k9 ho1 hg1 hblk
     go_wp2_with (at_builtin; refine wpList_app_run _ _ 22 _ _ rfl rfl rfl rfl hr1 ?_)
     go_roundw
     case rel => exact ⟨i + 1, by omega, by go_num, HFI1.out, K10.out, HB10.out, HS10.out, HO1.out⟩
     case measure => simp [intOf]; omega
    case pos =>
     have hltk : (k : Int) < (m : Int) := by omega
     have hkl : k < t[i].length := by rw [HLI.out]; exact hkm
     have hcl : c < t[i].length := by rw [HLI.out]; exact hc
     have hkr' : k < t[r].length := by rw [HLR.out]; exact hkm
     obtain ⟨bi, o3, rfl, hbi, x0, x1⟩ := HFRI.out.at hkl
     obtain ⟨bi', o3', hoi, _, e0, e1⟩ := HFRI.out.at hcl
     cases hoi
     obtain ⟨br', o2', hoo, _, k0, k1⟩ := HFR.out.at hkr'
     cases hoo
     have HGX := Lib.hid (HOK.out.ok _ (List.getElem_mem hil) _ (List.getElem_mem hkl))
     have HGE := Lib.hid (HOK.out.ok _ (List.getElem_mem hil) _ (List.getElem_mem hcl))
     have HGK := Lib.hid (HOK.out.ok _ (List.getElem_mem hr) _ (List.getElem_mem hkr'))
     have tx : tq t i k = (t[i][k]).q := tq_at hil hkl
     have te : tq t i c = (t[i][c]).q := tq_at hil hcl
     have tk : tq t r k = (t[r][k]).q := tq_at hr hkr'
     generalize t[i][k] = gx at *
     generalize t[i][c] = ge at *
     generalize t[r][k] = gk at *
     have hP : pivQ t r c i k = if i = r then gk.q / gc.q else gx.q - gk.q / gc.q * ge.q := by unfold pivQ; rw [tx, te, tk, HTQ.out]
     have hg0 : gc.q ≠ 0 := by rw [← HTQ.out]; exact H0.out
     have HNBP := Lib.hid (NBP.out hil hkm)
     have HLS := Lib.hid (pvL_succ t r c i k).symm
     have HYES : Hid (Fits (pivQ t r c i k) → fitL t r c i (k + 1) = true) := Lib.hid (fun h => by rw [fitL_succ, HFK.out, decide_eq_true h]; rfl)
     have HNOF : Hid (¬ Fits (pivQ t r c i k) → pvT t r c m = [] ∧ pvC t r c m = 10) := Lib.hid (fun h => by
      have := pvOK_no hil hkm h
      unfold pvT pvC
      rw [this]
      exact ⟨rfl, rfl⟩)
     obtain ⟨p, hp⟩ : ∃ p, pivQ t r c i k = p := ⟨_, rfl⟩
     rw [hp] at hP HNBP HLS HYES HNOF
     have nk := (nb_frac HGK.out).mono (k := 1000) (by omega)
     have nc := (nb_frac HGC.out).mono (k := 1000) (by omega)
     have nx := (nb_frac HGX.out).mono (k := 1000) (by omega)
     have ne := (nb_frac HGE.out).mono (k := 1000) (by omega)
     have ny0 := (nb_frac HGK.out).div (nb_frac HGC.out) hg0
     have ny := ny0.mono (k := 1000) (by omega)
     have nz := (ny0.mul (nb_frac HGE.out)).mono (k := 1000) (by omega)
     have of' : ∀ {g : Fq}, FracOK g.N g.D → ∀ w, Calls Tryz.prog 51 #[.agg #[.int .i64 g.N, .int .i64 g.D]] w fun e w' => e = .returned (numQ g.q) ∧ Keep NoS w w' := fun {g} h w => exOf_any w g.N g.D (by have := h.2.2; omega) (by have := h.1; have := h.2.1; omega) (by have := h.1; omega)
     obtain ⟨kb, kS, kc, kU, lk⟩ := numQ_agg gk.q
     obtain ⟨cb, cS, cc, cU, lc⟩ := numQ_agg gc.q
     obtain ⟨xb, xS, xc, xU, lx⟩ := numQ_agg gx.q
     obtain ⟨eb, eS, ec, eU, le⟩ := numQ_agg ge.q
     obtain ⟨yb, yS, yc, yU, ly⟩ := numQ_agg (gk.q / gc.q)
     obtain ⟨zb, zS, zc, zU, lz⟩ := numQ_agg (gk.q / gc.q * ge.q)
     obtain ⟨pb, pS, pc, pU, lp⟩ := numQ_agg p
     have COK := fun w => Lib.hid (of' HGK.out w)
     have COC := fun w => Lib.hid (of' HGC.out w)
     have COX := fun w => Lib.hid (of' HGX.out w)
     have COE := fun w => Lib.hid (of' HGE.out w)
     rw [lk] at COK
     rw [lc] at COC
     rw [lx] at COX
     rw [le] at COE
     have COV := fun w => Lib.hid (exOver_any w _ gk.q (isNum_Q _) nk _ gc.q (isNum_Q _) nc hg0)
     rw [lk, lc, ly] at COV
     have COT := fun w => Lib.hid (exTimes_any w _ (gk.q / gc.q) (isNum_Q _) ny _ ge.q (isNum_Q _) ne)
     rw [ly, le, lz] at COT
     have COM := fun w => Lib.hid (exMinus_any w _ gx.q (isNum_Q _) nx _ (gk.q / gc.q * ge.q) (isNum_Q _) nz)
     rw [lx, lz] at COM
     have CFR := fun w => Lib.hid (exFrac_any w _ p (isNum_Q _) (HNBP.out.mono (by omega)))
     rw [fracOf_fq, lp] at CFR
     have HMI := Lib.hid (And.intro hbi (And.intro x0 (And.intro x1 (And.intro e0 e1))))
     have HMR := Lib.hid (And.intro k0 k1)
     have hx0 := (HKR.out.cell hbi).trans x0
     have hx1 := (HKR.out.cell hbi).trans x1
     clear hkl hcl hkr' x0 x1 e0 e1 k0 k1 HGX HGE HGK tx te tk nk nc nx ne ny0 ny nz of' lk lc lx le lz hp
     go_wp2
     clear hx0 hx1
     have K5 : Hid (Keep NoS wr (wr.alloc (.cells #[.int .i64 gx.N, .int .i64 gx.D] 31))) := Lib.hid (by have HK := Lib.hid (Keep.refl NoS wr); (repeat' (with_reducible first | assumption | exact HK.out | exact keR | refine keA ?_ | refine keS ?_ fun h => absurd h (by omega) | refine keN ?_ | refine keD ?_)))
     have HB13 : Hid (Blk ((wr.alloc (.cells #[.int .i64 gx.N, .int .i64 gx.D] 31))) wr.heap.size #[.int .i64 gx.N, .int .i64 gx.D]) := Lib.hid (by (repeat (first | (refine blk_at _ _ ?_; simp; done) | (refine Blk.old ?_ _))))
     generalize (wr.alloc (.cells #[.int .i64 gx.N, .int .i64 gx.D] 31)) = wx at *
     generalize hb13 : wr.heap.size = b13 at HB13 ⊢
     clear hb13
     have KWX := Lib.hid (HKR.out.both K5.out)
     have HM := Lib.hid (And.intro ((KWX.out.cell hb).trans HCR.out) (And.intro ((KWX.out.cell hbr).trans HMR.out.1) (And.intro ((KWX.out.cell hbr).trans HMR.out.2) (And.intro ((KWX.out.cell hbr).trans HC0.out) ((KWX.out.cell hbr).trans HC1.out)))))
     have hbx := Nat.lt_of_lt_of_le hb KWX.out.size
     have hbrx := Nat.lt_of_lt_of_le hbr KWX.out.size
     refine wp_region_inv (fun w' => Keep NoS wx w') (pst9 wx.heap.size (.slice (some ⟨b, o, none⟩) t.length ca) (.slice (some ⟨br, o2, none⟩) m cr) r k c (.pointer (some ⟨b, o + r, none⟩)) (.pointer (some ⟨br, o2 + k * 2, none⟩)) (.pointer (some ⟨br, o2 + c * 2, none⟩)) (.agg #[.int .i64 gk.N, .int .i64 gk.D]) (.agg #[.int .i64 gc.N, .int .i64 gc.D]) (.agg #[.bool kb, .string kS, .bool kc, .string kU]) (.agg #[.bool cb, .string cS, .bool cc, .string cU]) yb yc yS yU) (by kernel_rfl) (by kernel_rfl) (by kernel_rfl) (by kernel_rfl) (by (repeat' (with_reducible first | assumption | exact HK.out | exact keR | refine keA ?_ | refine keS ?_ fun h => absurd h (by omega) | refine keN ?_ | refine keD ?_))) _ (fun σ => by
      show putAll _ σ [0, 1, 2, 3, 4, 5, 6, 7, 8, 9, 10, 11, 12, 13, 14, 15, 16, 17, 18] _ = _
      simp only [putAll, List.getElem?_toArray, List.getElem?_cons_zero, List.getElem?_cons_succ, Act.put, List.setIfInBounds_toArray, List.set_cons_zero, List.set_cons_succ]
      rfl) ?_ ?_
     ·intro S σ w1 hC e he HK
      have he : e < 19 := he
      have hC : Keep NoS wx w1 := hC
      obtain rfl | rfl | rfl | rfl | rfl | rfl | rfl | rfl | rfl | rfl | rfl | rfl | rfl | rfl | rfl | rfl | rfl | rfl | rfl : e = 0 ∨ e = 1 ∨ e = 2 ∨ e = 3 ∨ e = 4 ∨ e = 5 ∨ e = 6 ∨ e = 7 ∨ e = 8 ∨ e = 9 ∨ e = 10 ∨ e = 11 ∨ e = 12 ∨ e = 13 ∨ e = 14 ∨ e = 15 ∨ e = 16 ∨ e = 17 ∨ e = 18 := by omega
      ·refine wpAt rfl rfl fun K hK => ?_
       go_simp
       exact hK _ _ ⟨hC, fun d hd hs h => pst9_keep (by decide) (Keep.refl _ _) d _ h, _, rfl, rfl⟩
      ·refine wpAt rfl rfl fun K hK => ?_
       go_simp
       exact hK _ _ ⟨hC, fun d hd hs h => pst9_keep (by decide) (Keep.refl _ _) d _ h, _, rfl, rfl⟩
      ·have h0 : σ 0 = Value.slice (some ⟨b, o, none⟩) t.length ca := HK.post 0 (by kernel_rfl)
       rw [h0]
       have h1 : σ 1 = Value.int .i64 r := HK.post 1 (by kernel_rfl)
       rw [h1]
       refine wpAt rfl rfl fun K hK => ?_
       go_simp
       exact hK _ _ ⟨hC, fun d hd hs h => pst9_keep (by decide) (Keep.refl _ _) d _ h, _, rfl, rfl⟩
      ·have h2 : σ 2 = Value.pointer (some ⟨b, o + r, none⟩) := HK.post 2 (by kernel_rfl)
       rw [h2]
       have m0 := (hC.cell hbx).trans HM.out.1
       refine wpAt rfl rfl fun K hK => ?_
       go_simp
       exact hK _ _ ⟨hC, fun d hd hs h => pst9_keep (by decide) (Keep.refl _ _) d _ h, _, rfl, rfl⟩
      ·refine wpAt rfl rfl fun K hK => ?_
       go_simp
       exact hK _ _ ⟨hC, fun d hd hs h => pst9_keep (by decide) (Keep.refl _ _) d _ h, _, rfl, rfl⟩
      ·have h3 : σ 3 = Value.slice (some ⟨br, o2, none⟩) m cr := HK.post 3 (by kernel_rfl)
       rw [h3]
       have h4 : σ 4 = Value.int .i64 k := HK.post 4 (by kernel_rfl)
       rw [h4]
       refine wpAt rfl rfl fun K hK => ?_
       go_simp
       exact hK _ _ ⟨hC, fun d hd hs h => pst9_keep (by decide) (Keep.refl _ _) d _ h, _, rfl, rfl⟩
      ·have h5 : σ 5 = Value.pointer (some ⟨br, o2 + k * 2, none⟩) := HK.post 5 (by kernel_rfl)
       rw [h5]
       have m0 := (hC.cell hbrx).trans HM.out.2.1
       have m1 := (hC.cell hbrx).trans HM.out.2.2.1
       refine wpAt rfl rfl fun K hK => ?_
       go_simp
       exact hK _ _ ⟨hC, fun d hd hs h => pst9_keep (by decide) (Keep.refl _ _) d _ h, _, rfl, rfl⟩
      ·have h6 : σ 6 = Value.agg #[.int .i64 gk.N, .int .i64 gk.D] := HK.post 6 (by kernel_rfl)
       rw [h6]
       refine wpAt rfl rfl fun K hK => ?_
       go_simp
       refine (COK _).out.mono ?_
       rintro e w2 ⟨rfl, hk2⟩
       exact hK _ _ ⟨hC.both hk2, fun d hd hs h => pst9_keep (by decide) hk2 d _ h, _, rfl, rfl⟩
      ·refine wpAt rfl rfl fun K hK => ?_
       go_simp
       exact hK _ _ ⟨hC, fun d hd hs h => pst9_keep (by decide) (Keep.refl _ _) d _ h, _, rfl, rfl⟩
      ·refine wpAt rfl rfl fun K hK => ?_
       go_simp
       exact hK _ _ ⟨hC, fun d hd hs h => pst9_keep (by decide) (Keep.refl _ _) d _ h, _, rfl, rfl⟩
      ·have h8 : σ 8 = Value.slice (some ⟨b, o, none⟩) t.length ca := HK.post 8 (by kernel_rfl)
       rw [h8]
       have h9 : σ 9 = Value.int .i64 r := HK.post 9 (by kernel_rfl)
       rw [h9]
       refine wpAt rfl rfl fun K hK => ?_
       go_simp
       exact hK _ _ ⟨hC, fun d hd hs h => pst9_keep (by decide) (Keep.refl _ _) d _ h, _, rfl, rfl⟩
      ·have h10 : σ 10 = Value.pointer (some ⟨b, o + r, none⟩) := HK.post 10 (by kernel_rfl)
       rw [h10]
       have m0 := (hC.cell hbx).trans HM.out.1
       refine wpAt rfl rfl fun K hK => ?_
       go_simp
       exact hK _ _ ⟨hC, fun d hd hs h => pst9_keep (by decide) (Keep.refl _ _) d _ h, _, rfl, rfl⟩
      ·refine wpAt rfl rfl fun K hK => ?_
       go_simp
       exact hK _ _ ⟨hC, fun d hd hs h => pst9_keep (by decide) (Keep.refl _ _) d _ h, _, rfl, rfl⟩
      ·have h11 : σ 11 = Value.slice (some ⟨br, o2, none⟩) m cr := HK.post 11 (by kernel_rfl)
       rw [h11]
       have h12 : σ 12 = Value.int .i64 c := HK.post 12 (by kernel_rfl)
       rw [h12]
       refine wpAt rfl rfl fun K hK => ?_
       go_simp
       exact hK _ _ ⟨hC, fun d hd hs h => pst9_keep (by decide) (Keep.refl _ _) d _ h, _, rfl, rfl⟩
      ·have h13 : σ 13 = Value.pointer (some ⟨br, o2 + c * 2, none⟩) := HK.post 13 (by kernel_rfl)
       rw [h13]
       have m0 := (hC.cell hbrx).trans HM.out.2.2.2.1
       have m1 := (hC.cell hbrx).trans HM.out.2.2.2.2
       refine wpAt rfl rfl fun K hK => ?_
       go_simp
       exact hK _ _ ⟨hC, fun d hd hs h => pst9_keep (by decide) (Keep.refl _ _) d _ h, _, rfl, rfl⟩
      ·have h14 : σ 14 = Value.agg #[.int .i64 gc.N, .int .i64 gc.D] := HK.post 14 (by kernel_rfl)
       rw [h14]
       refine wpAt rfl rfl fun K hK => ?_
       go_simp
       refine (COC _).out.mono ?_
       rintro e w2 ⟨rfl, hk2⟩
       exact hK _ _ ⟨hC.both hk2, fun d hd hs h => pst9_keep (by decide) hk2 d _ h, _, rfl, rfl⟩
      ·have h7 : σ 7 = Value.agg #[.bool kb, .string kS, .bool kc, .string kU] := HK.post 7 (by kernel_rfl)
       rw [h7]
       have h15 : σ 15 = Value.agg #[.bool cb, .string cS, .bool cc, .string cU] := HK.post 15 (by kernel_rfl)
       rw [h15]
       refine wpAt rfl rfl fun K hK => ?_
       go_simp
       refine (COV _).out.mono ?_
       rintro e w2 ⟨rfl, hk2⟩
       exact hK _ _ ⟨hC.both hk2, fun d hd hs h => pst9_keep (by decide) hk2 d _ h, _, rfl, rfl⟩
      ·refine wpAt rfl rfl fun K hK => ?_
       go_simp
       exact hK _ _ ⟨hC.alloc _, fun d hd hs h => pst9_keep (by decide) ((Keep.refl _ _).alloc _) d _ h, _, rfl, ⟨w1.heap.size, rfl, hC.size, fun _ => blk_at _ _ rfl, fun hm => by rw [markS_other (by omega), HK.down 18 (by kernel_rfl)] at hm; cases hm⟩⟩
      ·have h16 : σ 16 = Value.agg #[.bool yb, .string yS, .bool yc, .string yU] := HK.post 16 (by kernel_rfl)
       rw [h16]
       obtain ⟨b14, e17, hg17, hb17, _⟩ := (show ∃ b, σ 17 = .pointer (some ⟨b, 0, none⟩) ∧ wx.heap.size ≤ b ∧ (S 18 = false → Blk w1 b #[.bool false, .string ⟨#[]⟩, .bool false, .string ⟨#[]⟩]) ∧ (S 18 = true → Blk w1 b #[.bool yb, .string yS, .bool yc, .string yU]) from HK.post 17 (by kernel_rfl))
       have hb17 := hb17 HK.self
       rw [e17]
       obtain ⟨s0, s1, s2, s3, f0, f1, f2, f3, sl⟩ := hb17.four
       refine wpAt rfl rfl fun K hK => ?_
       go_simp
       exact hK _ _ ⟨keep_set4 hC hg17 _ _ _ _, fun d hd hs h => pst9_store e17 (hb17.set4 _ _ _ _) d hd h, undef, rfl, trivial⟩
     ·intro S σ w5 hC hS hP9
      have hC : Keep NoS wx w5 := hC
      obtain ⟨b14, e17, hg17, _, hb17⟩ := (show ∃ b, σ 17 = .pointer (some ⟨b, 0, none⟩) ∧ wx.heap.size ≤ b ∧ (S 18 = false → Blk w5 b #[.bool false, .string ⟨#[]⟩, .bool false, .string ⟨#[]⟩]) ∧ (S 18 = true → Blk w5 b #[.bool yb, .string yS, .bool yc, .string yU]) from hP9 17 (by decide))
      have HB14 := Lib.hid (hb17 (hS 18 (by decide)))
      rw [e17]
      refine NoPanic.normal ?_
      have K6 := Lib.hid (K5.out.both hC)
      have HB13 := Lib.hid (HB13.out.keep hC)
      have HG14 : Hid (wr.heap.size ≤ b14) := Lib.hid (Nat.le_trans K5.out.size hg17)
      clear hP9 hS hC hb17 e17 hg17 K5 KWX HM hbx hbrx COK COC COV
      by_cases hir : i = r
      case pos =>
       have hii : ((i : Int) != (r : Int)) = false := by rw [bne_eq_false_iff_eq]; omega
       have hpy : gk.q / gc.q = p := by rw [hP, if_pos hir]
       rw [hpy, lp] at ly
       cases ly
       clear hir hP hpy COM COT COX COE
       have HOX := Lib.hid (HOU.out.keep K6.out)
       have HB7x := Lib.hid (HB7.out.keep K6.out)
       have KX := Lib.hid (HKR.out.both K6.out)
       have HSX : Hid (w0.heap.size ≤ w5.heap.size) := Lib.hid (Nat.le_trans HSR.out K6.out.size)
       obtain ⟨q0, q1, q2, q3, _, _, _, _, ql⟩ := HB14.out.four
       go_wp2_with fail
       refine (CFR _).out.mono ?_
       rintro e w8 ⟨rfl, hk8⟩
       have K8 := Lib.hid (KX.out.both hk8)
       have HB8 := Lib.hid (HB7x.out.keep hk8)
       have HO8 := Lib.hid (HOX.out.keep hk8)
       have HS8 : Hid (w0.heap.size ≤ w8.heap.size) := Lib.hid (Nat.le_trans HSX.out hk8.size)
       clear q0 q1 q2 q3 ql hk8 HOX HB7x KX HSX CFR
       by_cases hfit : Fits (p)
       case neg =>
        rw [decide_eq_false hfit]
        have HNO := Lib.hid (HNOF.out hfit)
        have k9 : Keep NoS w8 (w8.alloc (.cells #[.int .i64 (fqOf (p)).N, .int .i64 (fqOf (p)).D] 31)) := (Keep.refl _ _).alloc _
        have HB9 := Lib.hid (HB8.out.keep k9)
        have K9 := Lib.hid (K8.out.both k9)
        obtain ⟨s0, s1, f0, f1, sl⟩ := HB9.out.two
        clear hfit k9
        go_wp2
        refine bodyPost_ret (by simp [results, Tryz.results21, go_sem, s0, s1, sl]; rfl) rfl ?_
        exact ⟨_, by rw [HNO.out.2], by rw [HNO.out.1]; exact OwnTL.nil _ _, keep_set2 K9.out HS7.out _ _⟩
       case pos =>
        rw [decide_eq_true hfit]
        have HYS := Lib.hid (HYES.out hfit)
        have k9 : Keep NoS w8 ((w8.alloc (.cells #[.int .i64 (fqOf (p)).N, .int .i64 (fqOf (p)).D] 31)).alloc (.cells #[.int .i64 (fqOf (p)).N, .int .i64 (fqOf (p)).D] 31)) := ((Keep.refl _ _).alloc _).alloc _
        have HO9 := Lib.hid (HO8.out.keep k9)
        obtain ⟨v1, wA, hr1, ho1, hg1⟩ := HO9.out.push (g := fqOf (p)) (b := w8.heap.size + 1) (by (repeat (first | (refine blk_at _ _ ?_; simp; done) | (refine Blk.old ?_ _)))) (by rw [pvL_len]; omega) (Nat.le_trans HS8.out k9.size)
        rw [HLS.out] at ho1
        have HO1 := Lib.hid ho1
        obtain ⟨o1', d1', hs1, _⟩ := ho1.lenL
        rw [pvL_len] at hs1
        subst hs1
        have hblk := fun kk hh => HO9.out.blockL kk hh
        have K10 := Lib.hid ((K8.out.both k9).grown hg1 fun kk hh => Nat.le_trans HW0.out (hblk kk hh))
        have HB10 := Lib.hid ((HB8.out.keep k9).grown hg1 fun kk hh => by have := hblk kk hh; have := HS70.out; omega)
        have HS10 : Hid (w0.heap.size ≤ wA.heap.size) := Lib.hid (Nat.le_trans HS8.out (Nat.le_trans k9.size hg1.size))
        generalize (fqOf (p)).N = fn at *
        generalize (fqOf (p)).D = fd at *
        clear hfit k9 ho1 hg1 hblk
        go_wp2_with (at_builtin; refine wpList_app_run _ _ 23 _ _ rfl rfl rfl rfl hr1 ?_)
        go_roundw
        case rel => exact ⟨k + 1, by omega, by go_num, HYS.out, K10.out, HB10.out, HS10.out, HO1.out⟩
        case measure => simp [intOf]; omega
      case neg =>
       have hii : ((i : Int) != (r : Int)) = true := by rw [bne_iff_ne]; omega
       have hpy : gx.q - gk.q / gc.q * ge.q = p := by rw [hP, if_neg hir]
       rw [hpy, lp] at COM
       clear hir hP hpy
       go_wp2
       obtain ⟨q0, q1, q2, q3, g0, g1, g2, g3, ql⟩ := HB14.out.four
       refine wp_region_by (fun w' => Keep NoS w5 w') [10] [([0, 2, 3, 4, 5, 6], 1), ([], 7), ([], 8), ([], 9), ([], 10)] [] (by kernel_rfl) (by kernel_rfl) (by (repeat' (with_reducible first | assumption | exact HK.out | exact keR | refine keA ?_ | refine keS ?_ fun h => absurd h (by omega) | refine keN ?_ | refine keD ?_))) ?_
       intro X W hne hF hcl
       have HCL := Lib.hid hcl
       have KWB := Lib.hid (HKR.out.both K6.out)
       have hx0 := fun x => (HB14.out.keep (hF x)).four
       have hx1 := fun x => (HB13.out.keep (hF x)).two
       have hx2 := fun x => ((KWB.out.both (hF x)).cell HMI.out.1).trans HMI.out.2.2.2.1
       have hx3 := fun x => ((KWB.out.both (hF x)).cell HMI.out.1).trans HMI.out.2.2.2.2
       clear hF hcl
       simp only [wpPlan, pickOps, List.getElem?_toArray, List.getElem?_cons_zero, List.getElem?_cons_succ, clsOf, Bool.false_eq_true, if_false]
       (repeat (quiet_step (fail))); refine wpQuiet_nil ?_
       refine wpAt rfl rfl fun K hK => ?_
       go_simp
       refine (COX _).out.mono ?_
       rintro e w6 ⟨rfl, hk6⟩
       have k6 : Keep NoS w5 w6 := Keep.trans (by (repeat' (with_reducible first | assumption | exact HK.out | exact keR | refine keA ?_ | refine keS ?_ fun h => absurd h (by omega) | refine keN ?_ | refine keD ?_))) hk6 fun _ _ _ h => h
       refine hK _ _ ⟨fun _ => HCL.out _ k6, ?_⟩
       clear hK K hk6
       (repeat (quiet_step (fail))); refine wpQuiet_nil ?_
       refine wpAt rfl rfl fun K hK => ?_
       go_simp
       refine (COE _).out.mono ?_
       rintro e w7 ⟨rfl, hk7⟩
       have k7 : Keep NoS w5 w7 := k6.both hk7
       refine hK _ _ ⟨fun _ => HCL.out _ k7, ?_⟩
       clear hK K hk7
       (repeat (quiet_step (fail))); refine wpQuiet_nil ?_
       refine wpAt rfl rfl fun K hK => ?_
       go_simp
       refine (COT _).out.mono ?_
       rintro e w8 ⟨rfl, hk8⟩
       have k8 : Keep NoS w5 w8 := k7.both hk8
       refine hK _ _ ⟨fun _ => HCL.out _ k8, ?_⟩
       clear hK K hk8
       (repeat (quiet_step (fail))); refine wpQuiet_nil ?_
       refine wpAt rfl rfl fun K hK => ?_
       go_simp
       refine (COM _).out.mono ?_
       rintro e w9 ⟨rfl, hk9⟩
       have k9 : Keep NoS w5 w9 := k8.both hk9
       refine hK _ _ ⟨fun _ => HCL.out _ k9, ?_⟩
       clear hK K hk9
       have K9 := Lib.hid (K6.out.both k9)
       have HB14 := Lib.hid (HB14.out.keep k9)
       clear k6 k7 k8 k9 hx0 hx1 hx2 hx3 q0 q1 q2 q3 g0 g1 g2 g3 ql KWB
       obtain ⟨q0, q1, q2, q3, g0, g1, g2, g3, ql⟩ := HB14.out.four
       (repeat (quiet_step (fail))); refine wpQuiet_nil ?_
       refine wpAt rfl rfl fun K hK => ?_
       go_simp
       refine hK _ _ ⟨fun h => (by simp at h), ?_⟩
       have HB14 := Lib.hid (HB14.out.set4 (.bool pb) (.string pS) (.bool pc) (.string pU))
       have K10 := Lib.hid (keep_set4 K9.out HG14.out (.bool pb) (.string pS) (.bool pc) (.string pU))
       clear hK K q0 q1 q2 q3 g0 g1 g2 g3 ql K9 K6 HCL COX COE COT COM HB13
       generalize (((w9.setCell ⟨b14, 0, none⟩ (.bool pb)).setCell ⟨b14, 1, none⟩ (.string pS)).setCell ⟨b14, 2, none⟩ (.bool pc)).setCell ⟨b14, 3, none⟩ (.string pU) = w10 at *
       (repeat (quiet_step (fail))); refine wpQuiet_nil ?_
       refine NoPanic.normal ?_
       have HOX := Lib.hid (HOU.out.keep K10.out)
       have HB7x := Lib.hid (HB7.out.keep K10.out)
       have KX := Lib.hid (HKR.out.both K10.out)
       have HSX : Hid (w0.heap.size ≤ w10.heap.size) := Lib.hid (Nat.le_trans HSR.out K10.out.size)
       obtain ⟨q0, q1, q2, q3, _, _, _, _, ql⟩ := HB14.out.four
       go_wp2_with fail
       refine (CFR _).out.mono ?_
       rintro e w8 ⟨rfl, hk8⟩
       have K8 := Lib.hid (KX.out.both hk8)
       have HB8 := Lib.hid (HB7x.out.keep hk8)
       have HO8 := Lib.hid (HOX.out.keep hk8)
       have HS8 : Hid (w0.heap.size ≤ w8.heap.size) := Lib.hid (Nat.le_trans HSX.out hk8.size)
       clear q0 q1 q2 q3 ql hk8 HOX HB7x KX HSX CFR
       by_cases hfit : Fits (p)
       case neg =>
        rw [decide_eq_false hfit]
        have HNO := Lib.hid (HNOF.out hfit)
        have k9 : Keep NoS w8 (w8.alloc (.cells #[.int .i64 (fqOf (p)).N, .int .i64 (fqOf (p)).D] 31)) := (Keep.refl _ _).alloc _
        have HB9 := Lib.hid (HB8.out.keep k9)
        have K9 := Lib.hid (K8.out.both k9)
        obtain ⟨s0, s1, f0, f1, sl⟩ := HB9.out.two
        clear hfit k9
        go_wp2
        refine bodyPost_ret (by simp [results, Tryz.results21, go_sem, s0, s1, sl]; rfl) rfl ?_
        exact ⟨_, by rw [HNO.out.2], by rw [HNO.out.1]; exact OwnTL.nil _ _, keep_set2 K9.out HS7.out _ _⟩
       case pos =>
        rw [decide_eq_true hfit]
        have HYS := Lib.hid (HYES.out hfit)
        have k9 : Keep NoS w8 ((w8.alloc (.cells #[.int .i64 (fqOf (p)).N, .int .i64 (fqOf (p)).D] 31)).alloc (.cells #[.int .i64 (fqOf (p)).N, .int .i64 (fqOf (p)).D] 31)) := ((Keep.refl _ _).alloc _).alloc _
        have HO9 := Lib.hid (HO8.out.keep k9)
        obtain ⟨v1, wA, hr1, ho1, hg1⟩ := HO9.out.push (g := fqOf (p)) (b := w8.heap.size + 1) (by (repeat (first | (refine blk_at _ _ ?_; simp; done) | (refine Blk.old ?_ _)))) (by rw [pvL_len]; omega) (Nat.le_trans HS8.out k9.size)
        rw [HLS.out] at ho1
        have HO1 := Lib.hid ho1
        obtain ⟨o1', d1', hs1, _⟩ := ho1.lenL
        rw [pvL_len] at hs1
        subst hs1
        have hblk := fun kk hh => HO9.out.blockL kk hh
        have K10 := Lib.hid ((K8.out.both k9).grown hg1 fun kk hh => Nat.le_trans HW0.out (hblk kk hh))
        have HB10 := Lib.hid ((HB8.out.keep k9).grown hg1 fun kk hh => by have := hblk kk hh; have := HS70.out; omega)
        have HS10 : Hid (w0.heap.size ≤ wA.heap.size) := Lib.hid (Nat.le_trans HS8.out (Nat.le_trans k9.size hg1.size))
        generalize (fqOf (p)).N = fn at *
        generalize (fqOf (p)).D = fd at *
        clear hfit k9 ho1 hg1 hblk
        go_wp2_with (at_builtin; refine wpList_app_run _ _ 23 _ _ rfl rfl rfl rfl hr1 ?_)
        go_roundw
        case rel => exact ⟨k + 1, by omega, by go_num, HYS.out, K10.out, HB10.out, HS10.out, HO1.out⟩
        case measure => simp [intOf]; omega
end Go.Proofs.YtamjmcdlddocgaaGreat
