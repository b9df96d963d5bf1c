/- Contracts of the wide numbers: copying them. -/
import Derived.Test.YtihcbmkjfacooaaWideC
import Derived.Deep.RegionHeld3
import Derived.Deep.AppendLies
import Derived.Deep.RegionLawGrows
import Derived.Test.YtihcbmkjfacooaaRegion
namespace Go.Proofs.Ytihcbmkjfacooaa
open Go.ChangeShapes Go.WideShapes Go.RowKit
set_option linter.unusedVariables false
set_option linter.unusedSimpArgs false

theorem infoU32 : (Try.prog.info? 133).map (fun i => (i.zero, i.size, i.bytes)) = some (some (.int .u32 0), 1, 4) := by kernel_rfl

theorem add_zero_off (g j : Nat) : (⟨g, 0, none⟩ : Addr).add j = ⟨g, j, none⟩ := by unfold Addr.add; split <;> simp_all

def u32s (ds : List Nat) : List Value := ds.map fun d => Value.int .u32 (d : Nat)

theorem news_u32 {w : World} {g : Nat} {ds : List Nat} (h : ∀ i, i < ds.length → w.cell? ⟨g, i, none⟩ = some (.int .u32 (ds.getD i 0 : Nat)) ∧ ds.getD i 0 < 4294967296) :
    ∀ j u, (u32s ds)[j]? = some u → w.cell? ((⟨g, 0, none⟩ : Addr).add j) = some u := by
  intro j u hu
  rw [add_zero_off]
  unfold u32s at hu
  rw [List.getElem?_map] at hu
  rcases hj : ds[j]? with _ | d
  · rw [hj] at hu; cases hu
  · rw [hj] at hu; simp at hu; subst hu
    have hl : j < ds.length := by
      rcases Nat.lt_or_ge j ds.length with h' | h'
      · exact h'
      · simp [h'] at hj
    have := (h j hl).1
    simpa [List.getD, hj] using this

theorem dig_of_owns {w : World} {base : Nat} {v : Value} {n : Nat} {ds : List Nat} (h : w.ownsRow base U32 1 v n (u32s ds)) (hn : n = ds.length) (h0 : 0 < n) (hd : ∀ d ∈ ds, d < 4294967296) : IsDig w v ds := by
  subst hn
  obtain ⟨_, h | ⟨g, cap, cur, hv, hb, hg, hl, hm, hs, ht⟩⟩ := h
  · omega
  · refine ⟨g, cap, cur, (0, 0), hv, hg, hl, hm, fun i hi => ?_, hd⟩
    have h1 : (cur.toList.take (ds.length * 1))[i]? = (u32s ds)[i]? := by rw [ht]
    rw [List.getElem?_take, if_pos (by omega)] at h1
    have h2 : cur.toList[i]? = cur[i]? := by simp
    rw [← h2, h1]
    simp [u32s, List.getD, hi]

theorem grown_keep {w w' : World} {row : Option Nat} (h : w.grownBy w' row) (B : Nat) (hB : B ≤ w.heap.size) (hr : ∀ k, row = some k → B ≤ k) : Below B w w' :=
  (Below.refl B w).grown h hB hr

theorem heap_setCells2 {w : World} {b o : Nat} (u v : Value) (k : Nat) (h : k ≠ b) : ((w.setCell ⟨b, o, none⟩ u).setCell ⟨b, o + 1, none⟩ v).heap[k]? = w.heap[k]? := by
  rw [heap_setCell_other _ _ _ _ h, heap_setCell_other _ _ _ _ h]

set_option maxRecDepth 100000 in
set_option maxHeartbeats 4000000 in
theorem set_any (w : World) (b o b' o' : Nat) (x : Int) (hz : IsHdr w b o) (hx : IsInt w b' o' x) (hbig : x.natAbs < BIG) :
    Calls Try.prog 124 #[.pointer (some ⟨b, o, none⟩), .pointer (some ⟨b', o', none⟩)] w fun e w' => e = .returned (.pointer (some ⟨b, o, none⟩)) ∧ Keep (At b o) w w' ∧ IsInt w' b o x := by
  obtain ⟨neg, ds, hr, hn, hne, hzz, g1, g2, g3⟩ := hx.open
  have hlen := len_of_BIG ds hn (by rw [g3]; exact hbig)
  obtain ⟨g, cap, hc0, hc1, hlc, hcm, hb, hg, hgb, hf0, hf1, hdig⟩ := hr.open
  obtain ⟨zneg, za, zm1, zm2, zc0, zc1, zf0, zf1, zb⟩ := hz.open
  have HN := Lib.hid (news_u32 hdig)
  have HI : Hid (∀ w', IsRaw w' b o neg ds → IsInt w' b o x) := Lib.hid fun w' h => ⟨neg, ds, h, hn, hne, hzz⟩
  clear hne hzz g1 g2 g3 hx hn hbig
  have HZ := Lib.hid hz; clear hz
  have HD := Lib.hid hdig; clear hdig
  unfold maxLen at hcm
  obtain ⟨i0, hi0, hz0, hz1, hz2⟩ := info_parts infoU32
  have HL := Lib.hid hr.lt
  clear hr
  by_cases h0 : ds.length = 0
  · go_enter Try.func124, Try.ntmps124
    go_wp2
    refine wp_region_by (fun w' => w'.cell? ⟨b', o', none⟩ = some (.bool neg) ∧ w'.cell? ⟨b', o' + 1, none⟩ = some (.slice (some ⟨g, 0, none⟩) ds.length cap))
      [0, 1, 14, 15, 16, 17] [([0, 1, 2, 3, 4, 5, 7, 8, 9, 10], 6), ([], 11), ([12, 13], 14), ([15, 16], 17)] [] (by kernel_rfl) (by kernel_rfl) ⟨hc0, hc1⟩ ?_
    intro X W hne hF hcl
    have hx1 := fun x => (hF x).1
    have hx2 := fun x => (hF x).2
    have HC := Lib.hid hcl
    clear hF hcl
    simp only [wpPlan, pickOps, List.getElem?_toArray, List.getElem?_cons_zero, List.getElem?_cons_succ, clsOf, Bool.false_eq_true, if_false]
    (repeat (quiet_step (fail))); refine wpQuiet_nil ?_
    refine wpOp_at (by simp only [List.getElem?_toArray, List.getElem?_cons_zero, List.getElem?_cons_succ]; rfl) (by rfl) (fun K hK => ?_)
    go_simp
    refine hK _ _ ⟨fun _ => HC.out _ ⟨?_, ?_⟩, ?_⟩
    · simp [World.cell?_alloc_lt, hb, hc0]
    · simp [World.cell?_alloc_lt, hb, hc1]
    clear hK K
    (repeat (quiet_step (fail))); refine wpQuiet_nil ?_
    refine wpOp_at (by simp only [List.getElem?_toArray, List.getElem?_cons_zero, List.getElem?_cons_succ]; rfl) (by rfl) (fun K hK => ?_)
    go_simp
    refine hK _ _ ⟨fun _ => HC.out _ ⟨?_, ?_⟩, ?_⟩
    · simp [World.cell?_alloc_lt, hb, hc0]
    · simp [World.cell?_alloc_lt, hb, hc1]
    clear hK K
    (repeat (quiet_step (fail))); refine wpQuiet_nil ?_
    refine wpOp_at (by simp only [List.getElem?_toArray, List.getElem?_cons_zero, List.getElem?_cons_succ]; rfl) (by rfl) (fun K hK => ?_)
    go_simp
    refine hK _ _ ⟨fun h => (by simp at h), ?_⟩
    clear hK K
    rw [if_pos (by decide)]
    (repeat (quiet_step (fail))); refine wpQuiet_nil ?_
    refine wpOp_at (by simp only [List.getElem?_toArray, List.getElem?_cons_zero, List.getElem?_cons_succ]; rfl) (by rfl) (fun K hK => ?_)
    go_simp
    refine hK _ _ ⟨fun h => (by simp at h), ?_⟩
    clear hK K
    rw [if_pos (by decide)]
    refine wpQuiet_nil ?_
    refine NoPanic.normal ?_
    go_wp2
    go_returns
    have hds : ds = [] := List.eq_nil_of_length_eq_zero h0
    refine ⟨rfl, ?_, HI.out _ ?_⟩
    · exact ((((Keep.refl _ _).setCell _ fun _ => at_l b o).setCell _ fun _ => at_r b o).alloc _).drew
    · subst hds
      exact (raw_new HZ.out neg [] #[] 0 rfl rfl (by simp) (by simp)).keep ((Keep.refl NoS _).drew) (Off.noS _ _ _)
  have hpos : 0 < ds.length := by omega
  go_enter Try.func124, Try.ntmps124
  go_wp2
  refine wp_region_by (fun w' => w'.cell? ⟨b', o', none⟩ = some (.bool neg) ∧ w'.cell? ⟨b', o' + 1, none⟩ = some (.slice (some ⟨g, 0, none⟩) ds.length cap))
    [0, 1, 14, 15, 16, 17] [([0, 1, 2, 3, 4, 5, 7, 8, 9, 10], 6), ([], 11), ([12, 13], 14), ([15, 16], 17)] [] (by kernel_rfl) (by kernel_rfl) ⟨hc0, hc1⟩ ?_
  intro X W hne hF hcl
  have hx1 := fun x => (hF x).1
  have hx2 := fun x => (hF x).2
  have HC := Lib.hid hcl
  clear hF hcl
  simp only [wpPlan, pickOps, List.getElem?_toArray, List.getElem?_cons_zero, List.getElem?_cons_succ, clsOf, Bool.false_eq_true, if_false]
  (repeat (quiet_step (fail))); refine wpQuiet_nil ?_
  refine wpOp_at (by simp only [List.getElem?_toArray, List.getElem?_cons_zero, List.getElem?_cons_succ]; rfl) (by rfl) (fun K hK => ?_)
  go_simp
  refine hK _ _ ⟨fun _ => HC.out _ ⟨?_, ?_⟩, ?_⟩
  · simp [World.cell?_alloc_lt, hb, hc0]
  · simp [World.cell?_alloc_lt, hb, hc1]
  clear hK K
  (repeat (quiet_step (fail))); refine wpQuiet_nil ?_
  refine wpOp_at (by simp only [List.getElem?_toArray, List.getElem?_cons_zero, List.getElem?_cons_succ]; rfl) (by rfl) (fun K hK => ?_)
  refine wp_append_lies _ _ _ _ (by rfl) w.heap.size 133 i0 _ 1 4 Try.underlying72 hi0 hz0 hz1 hz2 rfl (by omega) (.slice (some ⟨w.heap.size, 0, none⟩) 0 0) 0 [] (by rfl)
    (World.ownsRow_made w.drew #[] 0 (Nat.le_refl _) (by simp [maxLen]) rfl) ⟨g, 0, none⟩ ds.length cap (u32s ds) (by rfl) (by simp [u32s]) ?_ (by simp [u32s, Value.oneCell']) hpos (by unfold maxLen; omega) (by omega) (by simp) _ rfl ?_
  · intro j u hu
    rw [← HN.out j u hu, add_zero_off]
    exact World.cell?_alloc_lt _ _ _ (by simpa using hg)
  intro g2 cap2 w1 hown hgrow hat hlt
  have hbel := grown_keep hgrow w.heap.size (by simp) (by simp [Value.ownBlock])
  have k0 : ∀ k i, k < w.heap.size → w1.cell? ⟨k, i, none⟩ = w.cell? ⟨k, i, none⟩ := fun k i hk => (hbel.cell (p := ⟨k, i, none⟩) hk).trans (World.cell?_alloc_lt _ _ _ hk)
  have k1 : ∀ k i, k < w.heap.size → w1.frozen? ⟨k, i, none⟩ = w.frozen? ⟨k, i, none⟩ := fun k i hk => (hbel.frozen (p := ⟨k, i, none⟩) hk).trans (World.frozen?_alloc_old _ _ _ (Nat.ne_of_lt hk))
  have zc0' := (k0 b o zb).trans zc0
  have zc1' := (k0 b (o + 1) zb).trans zc1
  have zf0' := (k1 b o zb).trans zf0
  have zf1' := (k1 b (o + 1) zb).trans zf1
  have xc0 := (k0 b' o' hb).trans hc0
  have xc1 := (k0 b' (o' + 1) hb).trans hc1
  refine hK _ _ ⟨fun _ => HC.out _ ⟨xc0, xc1⟩, ?_⟩
  clear hK K k0 k1
  have HO := Lib.hid hown
  have HG := Lib.hid hgrow
  have HA := Lib.hid hat
  have HB := Lib.hid hbel
  clear hown hgrow hat hbel
  simp only [Act.put, List.setIfInBounds_toArray, List.set_cons_zero, List.set_cons_succ]
  (repeat (quiet_step (fail))); refine wpQuiet_nil ?_
  refine wpOp_at (by simp only [List.getElem?_toArray, List.getElem?_cons_zero, List.getElem?_cons_succ]; rfl) (by rfl) (fun K hK => ?_)
  go_simp
  refine hK _ _ ⟨fun h => (by simp at h), ?_⟩
  clear hK K
  rw [if_pos (by decide)]
  (repeat (quiet_step (fail))); refine wpQuiet_nil ?_
  refine wpOp_at (by simp only [List.getElem?_toArray, List.getElem?_cons_zero, List.getElem?_cons_succ]; rfl) (by rfl) (fun K hK => ?_)
  go_simp
  refine hK _ _ ⟨fun h => (by simp at h), ?_⟩
  clear hK K
  rw [if_pos (by decide)]
  refine wpQuiet_nil ?_
  refine NoPanic.normal ?_
  go_wp2
  go_returns
  have bel : Below w.heap.size w w1 := (((Below.refl w.heap.size w).alloc (Nat.le_refl _) _).drew).trans HB.out
  have kp : Keep NoS w w1 := Keep.of_below bel (Nat.le_refl _)
  refine ⟨rfl, ?_, HI.out _ (raw_make (HZ.out.keep kp (Off.noS _ _ _)) neg (dig_of_owns (base := w.heap.size) (n := ds.length) (by simpa using HO.out) rfl hpos HL.out))⟩
  exact ((kp.mono fun _ _ _ h => h.elim).setCell _ fun _ => at_l b o).setCell _ fun _ => at_r b o

end Go.Proofs.Ytihcbmkjfacooaa
