/- The law FarkasSound: its walk. -/
import Derived.Test.YtihcbmkjfacooaaFkG
import Derived.Test.YtihcbmkjfacooaaFkL
namespace Go.Proofs.Ytihcbmkjfacooaa
open Go.ChangeShapes Go.WideShapes Go.RowKit
set_option linter.unusedVariables false
set_option linter.unusedSimpArgs false

def toldRows : List Rw := [⟨[1], 1, 2⟩, ⟨[-1], 1, -3⟩]
def toldTs : List Fq := [⟨1, 1⟩, ⟨1, 1⟩]
theorem told_fact : farkF toldRows 1 toldTs = (0, 0) ∧ fkB toldRows toldTs 1 = true := by decide +kernel

theorem told_i64 : ∀ g ∈ toldTs, I64 g.N ∧ I64 g.D := by unfold toldTs I64; simp
theorem row_lies {w : World} {b : Nat} (xs : List Int) (k t : Int) {cs : Array Value} (h : Blk w b cs) (hc : cs = (iv xs).toArray) (hx : ∀ x ∈ xs, fitI x) (hl : xs.length ≤ 12) (hk : fitI k) (ht : fitI t) (n : Nat) (hn : n = xs.length) :
    IsInts w (.slice (some ⟨b, 0, none⟩) n n) xs ∧ I64 k ∧ I64 t ∧ CapOK (.slice (some ⟨b, 0, none⟩) n n) := by
  have h64 : ∀ x, fitI x → I64 x := fun x h => by unfold fitI at h; unfold I64; omega
  exact ⟨ints_blk h hc hn (fun x h => h64 x (hx x h)) (by unfold maxLen; omega), h64 _ hk, h64 _ ht, _, _, _, rfl, Nat.le_refl _⟩

set_option maxRecDepth 100000 in
set_option maxHeartbeats 8000000 in
theorem farkasTold_any (w : World) : Calls Try.prog 31 #[] w fun e w' => e = .returned (.bool true) ∧ Keep NoS w w' := by
  have CT := fun w' v vt (h : IsRows w' v toldRows) (ht : IsFracs w' vt toldTs) => Lib.hid (takeFk_any w' v toldRows 1 vt toldTs h (by unfold I64; omega) ht)
  rw [told_fact.1, told_fact.2] at CT
  unfold fV at CT
  simp only at CT
  go_enter Try.func31, Try.ntmps31
  go_wp2_with fail
  refine (CT _ _ _ (rows_blk (b := w.heap.size + 1 + 1 + 1) (xs := [⟨.slice (some ⟨w.heap.size + 1, 0, none⟩) 1 1, ⟨[1], 1, 2⟩⟩, ⟨.slice (some ⟨w.heap.size + 1 + 1, 0, none⟩) 1 1, ⟨[-1], 1, -3⟩⟩]) (by (repeat (first | (refine blk_at _ _ ?_; simp; done) | (refine Blk.old ?_ _)))) rfl rfl rfl ?_ (by simp [maxLen])) (fracs_blk (b := w.heap.size + 1 + 1 + 1 + 1) (by (repeat (first | (refine blk_at _ _ ?_; simp; done) | (refine Blk.old ?_ _)))) rfl rfl told_i64 (by simp [toldTs, maxLen]))).out.mono ?_
  · intro x hx
    simp at hx
    rcases hx with rfl | rfl
    · exact row_lies (b := w.heap.size + 1) [1] 1 2 (by (repeat (first | (refine blk_at _ _ ?_; simp; done) | (refine Blk.old ?_ _)))) rfl (by decide) (by decide) (by decide) (by decide) 1 rfl
    · exact row_lies (b := w.heap.size + 1 + 1) [-1] 1 (-3) (by (repeat (first | (refine blk_at _ _ ?_; simp; done) | (refine Blk.old ?_ _)))) rfl (by decide) (by decide) (by decide) (by decide) 1 rfl
  rintro e w1 ⟨rfl, hk1⟩
  have K1 : Hid (Keep NoS w w1) := Lib.hid (Keep.both (by (repeat' (first | (with_reducible assumption) | (with_reducible exact HK.out) | (with_reducible exact Keep.refl _ _) | (with_reducible refine Keep.alloc ?_ _) | (with_reducible refine Keep.setCell ?_ _ (fun h => absurd h (by omega))) | (with_reducible refine Keep.drewN ?_ _) | (with_reducible refine Keep.drew ?_)))) hk1)
  have HK := K1
  clear hk1
  go_wp2
  go_ret
  exact ⟨rfl, by (repeat' (first | (with_reducible assumption) | (with_reducible exact HK.out) | (with_reducible exact Keep.refl _ _) | (with_reducible refine Keep.alloc ?_ _) | (with_reducible refine Keep.setCell ?_ _ (fun h => absurd h (by omega))) | (with_reducible refine Keep.drewN ?_ _) | (with_reducible refine Keep.drew ?_)))⟩

set_option maxRecDepth 100000 in
set_option maxHeartbeats 8000000 in
theorem farkasSound_walk (w : World) (v : Value) (rows : List Rw) (n : Int) (vt : Value) (times : List Fq) (vn : Value) (nums : List Fq) (h : IsRows w v rows) (hn : I64 n) (ht : IsFracs w vt times) (hp : IsFracs w vn nums) :
    Calls Try.prog 6 #[v, .int .i64 n, vt, vn] w fun e w' => e = .returned (.bool true) ∧ Below w.heap.size w w' := by
  suffices hk : Calls Try.prog 6 #[v, .int .i64 n, vt, vn] w fun e w' => e = .returned (.bool true) ∧ Keep NoS w w' from hk.mono fun e w' ⟨h1, h2⟩ => ⟨h1, h2.below (Nat.le_refl _) fun _ _ h => h.elim⟩
  have CT := fun w' (k : Keep NoS w w') => Lib.hid (takeFk_any w' v rows n vt times (h.keep k) hn (ht.keep k))
  have CF := fun w' (k : Keep NoS w w') => Lib.hid (lawFracs_any w' vn nums (hp.keep k))
  have CA := fun w' (k : Keep NoS w w') => Lib.hid (allHold_any w' v rows vn nums (h.keep k) (hp.keep k))
  have HZ : Hid ((farkF rows n times).1 ≠ 0 → fkB rows times n = false) := Lib.hid (fun h => by unfold fkB; rw [if_neg h])
  have HS : Hid ((farkF rows n times).1 = 0 → (nums.length : Int) = n → fkB rows times n = true → fracsB nums = true → allHB rows nums = false) := Lib.hid (by
    intro h1 h2 h3 h4
    obtain ⟨_, hl0, _, _⟩ := farkF_ok h1
    obtain ⟨_, _, _, hok⟩ := listF_ok hl0
    unfold fkB at h3
    rw [if_pos h1] at h3
    rcases hb : allHB rows nums with _ | _
    · rfl
    · exfalso
      subst h2
      exact fark_sound hok (fun r hr => (allHB_ok hb r hr).2) h3)
  generalize fkB rows times n = tb at *
  generalize farkF rows n times = c at *
  generalize fracsB nums = fb at *
  generalize allHB rows nums = ab at *
  obtain ⟨c1, c2⟩ := c
  unfold fV at CT
  simp only at CT HZ HS
  obtain ⟨oa, ca, rfl, _, _⟩ := h.len
  obtain ⟨ot, ct, rfl, _, _⟩ := ht.len
  obtain ⟨on, cn, rfl, _, _⟩ := hp.len
  clear h ht hp
  go_enter Try.func6, Try.ntmps6
  go_wp2_with fail
  refine (farkasTold_any _).mono ?_
  rintro e w0 ⟨rfl, hk0⟩
  have K0 := Lib.hid hk0
  clear hk0
  go_wp2_with fail
  refine (CT _ K0.out).out.mono ?_
  rintro e w1 ⟨rfl, hk1⟩
  have K1 := Lib.hid (K0.out.both hk1)
  clear hk1 K0 CT
  have HK := K1
  by_cases hc : c1 = 0
  case neg =>
    obtain rfl := HZ.out hc
    have e1 : (c1 != 0) = true := by rw [bne_iff_ne]; exact hc
    have e2 : (c1 == 0) = false := by rw [beq_eq_false_iff_ne]; exact hc
    clear HZ HS CF CA
    go_wp2
    go_ret
    exact ⟨rfl, by (repeat' (first | (with_reducible assumption) | (with_reducible exact HK.out) | (with_reducible exact Keep.refl _ _) | (with_reducible refine Keep.alloc ?_ _) | (with_reducible refine Keep.setCell ?_ _ (fun h => absurd h (by omega))) | (with_reducible refine Keep.drewN ?_ _) | (with_reducible refine Keep.drew ?_)))⟩
  case pos =>
    subst hc
    have HS := Lib.hid (HS.out rfl)
    clear HZ
    by_cases hl : (nums.length : Int) = n
    case neg =>
      have e1 : ((nums.length : Int) != n) = true := by rw [bne_iff_ne]; exact hl
      clear HS CF CA
      go_wp2
      go_ret
      exact ⟨rfl, by (repeat' (first | (with_reducible assumption) | (with_reducible exact HK.out) | (with_reducible exact Keep.refl _ _) | (with_reducible refine Keep.alloc ?_ _) | (with_reducible refine Keep.setCell ?_ _ (fun h => absurd h (by omega))) | (with_reducible refine Keep.drewN ?_ _) | (with_reducible refine Keep.drew ?_)))⟩
    case pos =>
      have HS := Lib.hid (HS.out hl)
      subst hl
      cases tb
      · clear HS CF CA
        go_wp2
        go_ret
        exact ⟨rfl, by (repeat' (first | (with_reducible assumption) | (with_reducible exact HK.out) | (with_reducible exact Keep.refl _ _) | (with_reducible refine Keep.alloc ?_ _) | (with_reducible refine Keep.setCell ?_ _ (fun h => absurd h (by omega))) | (with_reducible refine Keep.drewN ?_ _) | (with_reducible refine Keep.drew ?_)))⟩
      · have HS := Lib.hid (HS.out rfl)
        go_wp2_with fail
        refine (CF _ (K1.out.alloc _)).out.mono ?_
        rintro e w2 ⟨rfl, hk2⟩
        have K2 := Lib.hid ((K1.out.alloc _).both hk2)
        clear hk2 CF HK
        cases fb
        · clear HS CA
          go_wp2
          go_ret
          exact ⟨rfl, K2.out⟩
        · have hab : ab = false := by simpa using HS.out
          subst hab
          go_wp2_with fail
          refine (CA _ K2.out).out.mono ?_
          rintro e w3 ⟨rfl, hk3⟩
          have K3 := Lib.hid (K2.out.both hk3)
          clear hk3 CA HS
          go_wp2
          go_ret
          exact ⟨rfl, K3.out⟩
end Go.Proofs.Ytihcbmkjfacooaa
