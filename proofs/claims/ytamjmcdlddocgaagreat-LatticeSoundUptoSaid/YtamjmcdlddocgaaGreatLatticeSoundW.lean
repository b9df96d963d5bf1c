/- The law LatticeSound: its walk. -/
import Derived.Test.YtamjmcdlddocgaaGreatLcK
import Derived.Test.YtamjmcdlddocgaaGreatLtS
import Derived.Test.YtamjmcdlddocgaaGreatWpA
import Derived.Test.YtamjmcdlddocgaaGreatFkG
namespace Go.Proofs.YtamjmcdlddocgaaGreat
open Go.ChangeShapes Go.WideShapes Go.RowKit
set_option linter.unusedVariables false
set_option linter.unusedSimpArgs false
set_option maxRecDepth 100000 in
set_option maxHeartbeats 16000000 in
theorem latticeSound_walk (w : World) (v : Value) (rows : List Rw) (n : Int) (vt : Value) (times : List Fq) (vn : Value) (nums : List Int) (h : IsRows w v rows) (hn : I64 n) (ht : IsFracs w vt times) (hp : IsInts w vn nums) (hl : nums.length ≤ 1048576) :
  Calls Tryz.prog 6 #[v, .int .i64 n, vt, vn] w fun e w' => e = .returned (.bool true) ∧ Below w.heap.size w w' := by
 suffices hk : Calls Tryz.prog 6 #[v, .int .i64 n, vt, vn] w fun e w' => e = .returned (.bool true) ∧ Keep NoS w w' from hk.mono fun e w' ⟨h1, h2⟩ => ⟨h1, h2.below (Nat.le_refl _) fun _ _ h => h.elim⟩
 have CT := fun w' (k : Keep NoS w w') => Lib.hid (latTake_any w' v rows n vt times (h.keep k) hn (ht.keep k))
 have CW := fun w' (k : Keep NoS w w') => Lib.hid (wholePoint_any w' vn nums (hp.keep k) hl)
 have CA := fun w' (k : Keep NoS w w') u (hu : IsFracs w' u (wpF nums nums.length)) => Lib.hid (allHold_any w' v rows u (wpF nums nums.length) (h.keep k) hu)
 have HZ : Hid ((ltF rows n times).1 ≠ 0 → ltB rows n times = false) := Lib.hid (fun h => by unfold ltB; rw [if_neg h])
 have HS : Hid ((ltF rows n times).1 = 0 → (nums.length : Int) = n → ltB rows n times = true → allHB rows (wpF nums nums.length) = false) := Lib.hid (by
  intro h1 h2 h3
  obtain ⟨_, h5, _, _, _⟩ := ltF_ok h1
  obtain ⟨_, _, _, _, hok, hkd⟩ := eqF_ok h5
  unfold ltB at h3
  rw [if_pos h1, ← h2] at h3
  rcases hb : allHB rows (wpF nums nums.length) with _ | _
  ·rfl
  ·exfalso
   have hwl : (wpF nums nums.length).length = nums.length := wpF_len (Nat.le_refl _)
   refine latt_sound (rows := rows) (ts := times.map Fq.q) (nums := wpF nums nums.length) (fun r hr => ?_) hkd (fun r hr => (allHB_ok hb r hr).2) (fun g hg => ?_) ?_
   ·rw [hwl, h2]; exact hok r hr
   ·unfold wpF at hg
    obtain ⟨x, _, rfl⟩ := List.mem_map.1 hg
    rfl
   ·rw [hwl]; simpa using h3)
 generalize ltB rows n times = tb at *
 generalize ltF rows n times = c at *
 generalize allHB rows (wpF nums nums.length) = ab at *
 obtain ⟨bb, hbb⟩ : ∃ bb, wpB nums nums.length = bb := ⟨_, rfl⟩
 rw [hbb] at CW
 clear hbb
 generalize wpF nums nums.length = L at *
 obtain ⟨c1, c2⟩ := c
 unfold fV at CT
 simp only at CT HZ HS
 obtain ⟨oa, ca, rfl, _, _⟩ := h.len
 obtain ⟨ot, ct, rfl, _, _⟩ := ht.len
 obtain ⟨on, cn, rfl, _⟩ := hp.len
 clear h ht hp
 go_enter Tryz.func6, Tryz.ntmps6
 go_wp2_with fail
 refine (latticeFact_any _).mono ?_
 rintro e w0 ⟨rfl, hk0⟩
 have K0 := Lib.hid hk0
 clear hk0
 go_wp2_with fail
 refine (CT _ K0.out).out.mono ?_
 rintro e w1 ⟨rfl, hk1⟩
 have K1 := Lib.hid (K0.out.both hk1)
 clear hk1 K0 CT
 have HK := K1
 by_cases hc : c1 = 0
 case neg =>
  obtain rfl := HZ.out hc
  have e1 : (c1 != 0) = true := by rw [bne_iff_ne]; exact hc
  have e2 : (c1 == 0) = false := by rw [beq_eq_false_iff_ne]; exact hc
  clear HZ HS CW CA
  go_wp2
  go_ret
  exact ⟨rfl, by (repeat' (with_reducible first | assumption | exact HK.out | exact keR | refine keA ?_ | refine keS ?_ fun h => absurd h (by omega) | refine keN ?_ | refine keD ?_))⟩
 case pos =>
  subst hc
  have HS := Lib.hid (HS.out rfl)
  clear HZ
  go_wp2_with fail
  refine (CW _ (K1.out.alloc _)).out.mono ?_
  rintro e w2 ⟨u, rfl, hu, hk2⟩
  have K2 := Lib.hid ((K1.out.alloc _).both hk2)
  clear hk2 CW HK
  cases tb
  ·clear HS CA
   go_wp2
   go_ret
   exact ⟨rfl, K2.out⟩
  ·cases bb
   ·clear HS CA
    go_wp2
    go_ret
    exact ⟨rfl, K2.out⟩
   ·by_cases hln : (nums.length : Int) = n
    case neg =>
     have e1 : ((nums.length : Int) != n) = true := by rw [bne_iff_ne]; exact hln
     clear HS CA
     go_wp2
     go_ret
     exact ⟨rfl, K2.out⟩
    case pos =>
     have hab : ab = false := by
      have := HS.out
      simpa [hln] using this
     subst hln
     subst hab
     rw [if_pos rfl] at hu
     have HU := Lib.hid hu
     obtain ⟨ou, cu, rfl, _, _⟩ := hu.len
     clear hu HS
     go_wp2_with fail
     refine (CA _ K2.out _ HU.out).out.mono ?_
     rintro e w3 ⟨rfl, hk3⟩
     have K3 := Lib.hid (K2.out.both hk3)
     clear hk3 CA
     go_wp2
     go_ret
     exact ⟨rfl, K3.out⟩
end Go.Proofs.YtamjmcdlddocgaaGreat
