/- The plain law of shortest ways: one number more in between at a time. -/
import Derived.Test.YtnmklgigmmlgeaaGapLastW
namespace Go.Proofs.Ytnmklgigmmlgeaa
set_option linter.unusedVariables false
set_option linter.unusedSimpArgs false

def tini (l : List Gp) : Nat → Nat → Nat → Int
  | 0, a, b => if a = b then 0 else 1099511627776
  | k + 1, a, b => if gA l k = a ∧ gB l k = b then min (tini l k a b) (gY l k) else tini l k a b

def upd (t : Nat → Nat → Int) (a b : Nat) (v : Int) : Nat → Nat → Int := fun x y => if x = a ∧ y = b then v else t x y
def fstep (t : Nat → Nat → Int) (k a b : Nat) : Nat → Nat → Int := if t a k < 1099511627776 ∧ t k b < 1099511627776 then upd t a b (min (t a b) (IntKind.i64.wrap (t a k + t k b))) else t
def frow (t : Nat → Nat → Int) (k a : Nat) : Nat → Nat → Nat → Int
  | 0 => t
  | b + 1 => fstep (frow t k a b) k a b
def fmat (n : Nat) (t : Nat → Nat → Int) (k : Nat) : Nat → Nat → Nat → Int
  | 0 => t
  | a + 1 => frow (fmat n t k a) k a n
def fall (n : Nat) (t : Nat → Nat → Int) : Nat → Nat → Nat → Int
  | 0 => t
  | k + 1 => fmat n (fall n t k) k n
/-- The table behind k numbers. -/
def tab (n : Nat) (l : List Gp) (k : Nat) : Nat → Nat → Int := fall n (tini l l.length) k

theorem fstep_le (t : Nat → Nat → Int) (k a b x y : Nat) : fstep t k a b x y ≤ t x y := by
  unfold fstep
  split
  · unfold upd
    split
    · rename_i h; rw [h.1, h.2]; exact Int.min_le_left _ _
    · exact Int.le_refl _
  · exact Int.le_refl _
theorem frow_le (t : Nat → Nat → Int) (k a x y : Nat) : ∀ b, frow t k a b x y ≤ t x y
  | 0 => Int.le_refl _
  | b + 1 => Int.le_trans (fstep_le _ _ _ _ _ _) (frow_le t k a x y b)
theorem fmat_le (n : Nat) (t : Nat → Nat → Int) (k x y : Nat) : ∀ a, fmat n t k a x y ≤ t x y
  | 0 => Int.le_refl _
  | a + 1 => Int.le_trans (frow_le _ _ _ _ _ _) (fmat_le n t k x y a)

/-- All of a round at once. -/
def st (t : Nat → Nat → Int) (k x y : Nat) : Int := if t x k < 1099511627776 ∧ t k y < 1099511627776 then min (t x y) (t x k + t k y) else t x y

theorem st_col {t : Nat → Nat → Int} {k : Nat} (h : 0 ≤ t k k) (x : Nat) : st t k x k = t x k := by unfold st; split <;> omega
theorem st_row {t : Nat → Nat → Int} {k : Nat} (h : 0 ≤ t k k) (y : Nat) : st t k k y = t k y := by unfold st; split <;> omega

/-- Numbers that don't come to be too large. -/
def Bd (n : Nat) (P : Int) (t : Nat → Nat → Int) : Prop := ∀ a b, a < n → b < n → t a b = 1099511627776 ∨ (-P ≤ t a b ∧ t a b ≤ P)

theorem frow_eq {n : Nat} {t c : Nat → Nat → Int} {k a : Nat} {P : Int} (hP : 0 ≤ P ∧ P ≤ 5000000000) (hb : Bd n P t) (h : 0 ≤ t k k) (hk : k < n) (ha : a < n)
    (hc : ∀ x y, x < n → y < n → c x y = if x < a then st t k x y else t x y) : ∀ b, b ≤ n → ∀ x y, x < n → y < n → frow c k a b x y = if x < a ∨ x = a ∧ y < b then st t k x y else t x y
  | 0, _, x, y, hx, hy => by
    rw [frow, hc x y hx hy]
    by_cases h1 : x < a
    · rw [if_pos h1, if_pos (.inl h1)]
    · rw [if_neg h1, if_neg (by omega)]
  | b + 1, hbn, x, y, hx, hy => by
    have ih := frow_eq hP hb h hk ha hc b (by omega)
    have e1 : frow c k a b a k = t a k := by rw [ih a k ha hk]; split <;> simp [st_col h]
    have e2 : frow c k a b k b = t k b := by rw [ih k b hk (by omega)]; split <;> simp [st_row h]
    have e3 : frow c k a b a b = t a b := by rw [ih a b ha (by omega), if_neg (by omega)]
    rw [frow, fstep, e1, e2, e3]
    by_cases hf : t a k < 1099511627776 ∧ t k b < 1099511627776
    · rw [if_pos hf, upd]
      by_cases hxy : x = a ∧ y = b
      · rw [if_pos hxy, if_pos (by omega), hxy.1, hxy.2, st, if_pos hf]
        have b1 := hb a k ha hk
        have b2 := hb k b hk (by omega)
        rw [Go.IntWalk.i64_in _ (by omega)]
      · rw [if_neg hxy, ih x y hx hy]
        by_cases h1 : x < a ∨ x = a ∧ y < b
        · rw [if_pos h1, if_pos (by omega)]
        · rw [if_neg h1, if_neg (by omega)]
    · rw [if_neg hf, ih x y hx hy]
      by_cases hxy : x = a ∧ y = b
      · rw [if_neg (by omega), if_pos (by omega), hxy.1, hxy.2, st, if_neg hf]
      · by_cases h1 : x < a ∨ x = a ∧ y < b
        · rw [if_pos h1, if_pos (by omega)]
        · rw [if_neg h1, if_neg (by omega)]

theorem fmat_eq {n : Nat} {t : Nat → Nat → Int} {k : Nat} {P : Int} (hP : 0 ≤ P ∧ P ≤ 5000000000) (hb : Bd n P t) (h : 0 ≤ t k k) (hk : k < n) : ∀ a, a ≤ n → ∀ x y, x < n → y < n → fmat n t k a x y = if x < a then st t k x y else t x y
  | 0, _, x, y, hx, hy => by rw [fmat, if_neg (by omega)]
  | a + 1, ha, x, y, hx, hy => by
    rw [fmat, frow_eq hP hb h hk (by omega) (fmat_eq hP hb h hk a (by omega)) n (Nat.le_refl _) x y hx hy]
    by_cases h1 : x < a + 1
    · rw [if_pos h1, if_pos (by omega)]
    · rw [if_neg h1, if_neg (by omega)]

structure FWI (n : Nat) (l : List Gp) (m : Nat) (P : Int) (t : Nat → Nat → Int) : Prop where
  bd : Bd n P t
  dia : ∀ a, a < n → t a a ≤ 0
  gap : ∀ e, e < l.length → t (gA l e) (gB l e) ≤ gY l e
  snd : ∀ f, Keeps l f → ∀ a b, a < n → b < n → t a b < 1099511627776 → f a - f b ≤ t a b
  tri : ∀ c, c < m → ∀ a b, a < n → b < n → t a c < 1099511627776 → t c b < 1099511627776 → t a b ≤ t a c + t c b

theorem FWI.step {n : Nat} {l : List Gp} {m : Nat} {P : Int} {t t' : Nat → Nat → Int} (hg : GpsOK n l) (h : FWI n l m P t) (hP : 0 ≤ P ∧ P ≤ 5000000000) (h0 : 0 ≤ t m m) (hm : m < n)
    (ht : ∀ x y, x < n → y < n → t' x y = st t m x y) : FWI n l (m + 1) (2 * P) t' := by
  have hle : ∀ x y, x < n → y < n → t' x y ≤ t x y := by
    intro x y hx hy
    rw [ht x y hx hy, st]
    split <;> omega
  have hcol : ∀ x, x < n → t' x m = t x m := fun x hx => by rw [ht x m hx hm, st_col h0]
  have hrow : ∀ y, y < n → t' m y = t m y := fun y hy => by rw [ht m y hm hy, st_row h0]
  have hjoin : ∀ x y, x < n → y < n → t x m < 1099511627776 → t m y < 1099511627776 → t' x y ≤ t x m + t m y := by
    intro x y hx hy h1 h2
    rw [ht x y hx hy, st, if_pos ⟨h1, h2⟩]
    exact Int.min_le_right _ _
  have hwas : ∀ x y, x < n → y < n → t' x y = t x y ∨ (t x m < 1099511627776 ∧ t m y < 1099511627776 ∧ t' x y = t x m + t m y) := by
    intro x y hx hy
    rw [ht x y hx hy, st]
    split <;> omega
  refine ⟨fun x y hx hy => ?_, fun a ha => ?_, fun e he => ?_, fun f hf a b ha hb hlt => ?_, fun c hc a b ha hb h1 h2 => ?_⟩
  · have b0 := h.bd x y hx hy
    have b1 := h.bd x m hx hm
    have b2 := h.bd m y hm hy
    have := hwas x y hx hy
    have := hle x y hx hy
    omega
  · have := hle a a ha ha
    have := h.dia a ha
    omega
  · have q := hg.at he
    have := hle _ _ q.1 q.2.1
    have := h.gap e he
    omega
  · rcases hwas a b ha hb with e | ⟨h1, h2, e⟩
    · rw [e] at hlt ⊢; exact h.snd f hf a b ha hb hlt
    · have := h.snd f hf a m ha hm h1
      have := h.snd f hf m b hm hb h2
      omega
  · by_cases hcm : c = m
    · subst hcm
      rw [hcol a ha] at h1 ⊢
      rw [hrow b hb] at h2 ⊢
      exact hjoin a b ha hb h1 h2
    · have hcn : c < n := by omega
      have hc' : c < m := by omega
      have bam := h.bd a m ha hm
      have bmb := h.bd m b hm hb
      have bmc := h.bd m c hm hcn
      have bcm := h.bd c m hcn hm
      have bac := h.bd a c ha hcn
      have bcb := h.bd c b hcn hb
      have l0 := hle a b ha hb
      rcases hwas a c ha hcn with e1 | ⟨p1, p2, e1⟩ <;> rcases hwas c b hcn hb with e2 | ⟨q1, q2, e2⟩
      · rw [e1] at h1 ⊢; rw [e2] at h2 ⊢
        have := h.tri c hc' a b ha hb h1 h2
        omega
      · rw [e1] at h1 ⊢; rw [e2]
        have := h.tri c hc' a m ha hm h1 q1
        have := hjoin a b ha hb (by omega) q2
        omega
      · rw [e2] at h2 ⊢; rw [e1]
        have := h.tri c hc' m b hm hb p2 h2
        have := hjoin a b ha hb p1 (by omega)
        omega
      · rw [e1, e2]
        have := h.tri c hc' m m hm hm p2 q1
        have := hjoin a b ha hb p1 q2
        omega

theorem tini_le (l : List Gp) (a b : Nat) : ∀ k, tini l (k + 1) a b ≤ tini l k a b := by
  intro k
  rw [tini]
  split <;> omega
theorem tini_mono (l : List Gp) (a b j : Nat) : ∀ d, tini l (j + d) a b ≤ tini l j a b
  | 0 => Int.le_refl _
  | d + 1 => Int.le_trans (tini_le l a b (j + d)) (tini_mono l a b j d)
theorem tini_of {n : Nat} {l : List Gp} (hg : GpsOK n l) (a b : Nat) : ∀ k, k ≤ l.length → tini l k a b = (if a = b then 0 else 1099511627776) ∨ ∃ e, e < k ∧ gA l e = a ∧ gB l e = b ∧ tini l k a b = gY l e
  | 0, _ => .inl rfl
  | k + 1, hk => by
    have ih := tini_of hg a b k (by omega)
    rw [tini]
    by_cases h : gA l k = a ∧ gB l k = b
    · rw [if_pos h]
      by_cases hl : tini l k a b ≤ gY l k
      · rw [Int.min_eq_left hl]
        exact ih.imp id fun ⟨e, h1, h2⟩ => ⟨e, by omega, h2⟩
      · rw [Int.min_eq_right (by omega)]
        exact .inr ⟨k, by omega, h.1, h.2, rfl⟩
    · rw [if_neg h]
      exact ih.imp id fun ⟨e, h1, h2⟩ => ⟨e, by omega, h2⟩

theorem FWI.init {n : Nat} {l : List Gp} (hg : GpsOK n l) : FWI n l 0 1000000 (tini l l.length) := by
  refine ⟨fun a b ha hb => ?_, fun a ha => ?_, fun e he => ?_, fun f hf a b ha hb hlt => ?_, fun c hc => absurd hc (by omega)⟩
  · rcases tini_of hg a b l.length (Nat.le_refl _) with h | ⟨e, he, _, _, h⟩
    · rw [h]; split <;> simp
    · rw [h]; have := hg.at he; omega
  · have := tini_mono l a a 0 l.length
    rw [Nat.zero_add, show tini l 0 a a = 0 from if_pos rfl] at this
    exact this
  · have h1 := tini_mono l (gA l e) (gB l e) (e + 1) (l.length - (e + 1))
    rw [show e + 1 + (l.length - (e + 1)) = l.length by omega] at h1
    have h2 : tini l (e + 1) (gA l e) (gB l e) ≤ gY l e := by
      rw [tini, if_pos ⟨rfl, rfl⟩]; exact Int.min_le_right _ _
    omega
  · rcases tini_of hg a b l.length (Nat.le_refl _) with h | ⟨e, he, h1, h2, h⟩
    · rw [h] at hlt ⊢
      by_cases hab : a = b
      · rw [if_pos hab, hab]; omega
      · rw [if_neg hab] at hlt; simp at hlt
    · rw [h, ← h1, ← h2]; exact hf e he

def pw : Nat → Int
  | 0 => 1000000
  | m + 1 => 2 * pw m
theorem pw_le : ∀ m, m ≤ 12 → 0 ≤ pw m ∧ pw m ≤ 5000000000 := by
  intro m hm
  have : m = 0 ∨ m = 1 ∨ m = 2 ∨ m = 3 ∨ m = 4 ∨ m = 5 ∨ m = 6 ∨ m = 7 ∨ m = 8 ∨ m = 9 ∨ m = 10 ∨ m = 11 ∨ m = 12 := by omega
  rcases this with rfl | rfl | rfl | rfl | rfl | rfl | rfl | rfl | rfl | rfl | rfl | rfl | rfl <;> decide

theorem fwi {n : Nat} {l : List Gp} (hg : GpsOK n l) : ∀ m, m ≤ n → (∀ k, k < m → 0 ≤ tab n l k k k) → FWI n l m (pw m) (tab n l m)
  | 0, _, _ => FWI.init hg
  | m + 1, hm, h0 => by
    have ih := fwi hg m (by omega) fun k hk => h0 k (by omega)
    have hn := hg.1
    have hp := pw_le m (by omega)
    refine FWI.step hg ih hp (h0 m (by omega)) (by omega) fun x y hx hy => ?_
    show fmat n (tab n l m) m n x y = _
    rw [fmat_eq hp ih.bd (h0 m (by omega)) (by omega) n (Nat.le_refl _) x y hx hy, if_pos hx]

/-- All rounds' looks at the middle find nothing below 0. -/
def okTo (n : Nat) (l : List Gp) (m : Nat) : Prop := ∀ k, k < m → ∀ a, a < n → 0 ≤ tab n l (k + 1) a a

theorem fwi_ok {n : Nat} {l : List Gp} (hg : GpsOK n l) {m : Nat} (hm : m ≤ n) (h : okTo n l m) : FWI n l m (pw m) (tab n l m) :=
  fwi hg m hm fun k hk => Int.le_trans (h k hk k (by omega)) (fmat_le n (tab n l k) k k k n)

theorem fwi_keeps {n : Nat} {l : List Gp} (hg : GpsOK n l) {f : Nat → Int} (hf : Keeps l f) : ∀ m, m ≤ n → FWI n l m (pw m) (tab n l m) ∧ ∀ a, a < n → 0 ≤ tab n l m a a := by
  intro m
  induction m with
  | zero =>
    intro _
    have h := fwi hg 0 (by omega) fun k hk => absurd hk (by omega)
    refine ⟨h, fun a ha => ?_⟩
    have h1 := h.dia a ha
    have := h.snd f hf a a ha ha (by omega)
    omega
  | succ m ih =>
    intro hm
    have hn := hg.1
    obtain ⟨i1, i2⟩ := ih (by omega)
    have hp := pw_le m (by omega)
    have h : FWI n l (m + 1) (pw (m + 1)) (tab n l (m + 1)) := FWI.step hg i1 hp (i2 m (by omega)) (by omega) fun x y hx hy => by
      show fmat n (tab n l m) m n x y = _
      rw [fmat_eq hp i1.bd (i2 m (by omega)) (by omega) n (Nat.le_refl _) x y hx hy, if_pos hx]
    refine ⟨h, fun a ha => ?_⟩
    have h1 := h.dia a ha
    have := h.snd f hf a a ha ha (by omega)
    omega

theorem keeps_ok {n : Nat} {l : List Gp} (hg : GpsOK n l) {f : Nat → Int} (hf : Keeps l f) {m : Nat} (hm : m ≤ n) : okTo n l m := fun k hk a ha => (fwi_keeps hg hf (k + 1) (by omega)).2 a ha

/-- The least of a line, and 0. -/
def lst (t : Nat → Nat → Int) (a : Nat) : Nat → Int
  | 0 => 0
  | b + 1 => min (lst t a b) (t a b)

theorem lst_le (t : Nat → Nat → Int) (a : Nat) : ∀ n, lst t a n ≤ 0 ∧ ∀ b, b < n → lst t a n ≤ t a b
  | 0 => ⟨Int.le_refl _, fun b hb => absurd hb (by omega)⟩
  | n + 1 => by
    obtain ⟨h1, h2⟩ := lst_le t a n
    rw [lst]
    refine ⟨by omega, fun b hb => ?_⟩
    by_cases hbn : b = n
    · subst hbn; exact Int.min_le_right _ _
    · have := h2 b (by omega); omega
theorem lst_at (t : Nat → Nat → Int) (a : Nat) : ∀ n, lst t a n = 0 ∨ ∃ b, b < n ∧ lst t a n = t a b
  | 0 => .inl rfl
  | n + 1 => by
    have ih := lst_at t a n
    rw [lst]
    by_cases h : lst t a n ≤ t a n
    · rw [Int.min_eq_left h]
      exact ih.imp id fun ⟨b, hb, e⟩ => ⟨b, by omega, e⟩
    · rw [Int.min_eq_right (by omega)]
      exact .inr ⟨n, by omega, rfl⟩

theorem FWI.keeps {n : Nat} {l : List Gp} {P : Int} {t : Nat → Nat → Int} (hg : GpsOK n l) (h : FWI n l n P t) (hP : 0 ≤ P ∧ P ≤ 5000000000) : Keeps l fun a => lst t a n := by
  intro e he
  obtain ⟨hA, hB, y0, y1, _, _⟩ := hg.at he
  have h1 := h.gap e he
  have h2 := lst_le t (gA l e) n
  show lst t (gA l e) n - lst t (gB l e) n ≤ gY l e
  rcases lst_at t (gB l e) n with e0 | ⟨c, hc, e0⟩
  · have := h2.2 (gB l e) hB
    omega
  · have h3 := (lst_le t (gB l e) n).1
    have h4 := h.tri (gB l e) hB (gA l e) c hA hc (by omega) (by omega)
    have := h2.2 c hc
    omega

theorem ok_keeps {n : Nat} {l : List Gp} (hg : GpsOK n l) (h : okTo n l n) : Keeps l fun a => lst (tab n l n) a n := by
  have := hg.1
  exact (fwi_ok hg (Nat.le_refl _) h).keeps hg (pw_le n (by omega))

/-- What gap.Do tells and the table's least ones are the same. -/
theorem vals_lst {n : Nat} {l : List Gp} (hg : GpsOK n l) {t : Nat} (h : (rnds n l (t + 1)).last < 0) (hv : ∀ x, x < n → -10000000000 ≤ (rnds n l (t + 1)).vals.getD x 0 ∧ (rnds n l (t + 1)).vals.getD x 0 ≤ 0) :
    ∀ a, a < n → (rnds n l (t + 1)).vals.getD a 0 = lst (tab n l n) a n := by
  have hn := hg.1
  have hp := pw_le n (by omega)
  have hk := rnds_keeps hg h
  obtain ⟨i1, _⟩ := fwi_keeps hg hk n (Nat.le_refl _)
  intro a ha
  have h1 := (rnds_ge hg (i1.keeps hg hp) (fun x hx => (lst_le _ x n).1) (t + 1)).2 a ha
  have h2 : (rnds n l (t + 1)).vals.getD a 0 ≤ lst (tab n l n) a n := by
    have hva := hv a ha
    rcases lst_at (tab n l n) a n with e | ⟨b, hb, e⟩
    · omega
    · have h3 := (lst_le (tab n l n) a n).1
      have := i1.snd _ hk a b ha hb (by omega)
      have := hv b hb
      omega
  omega

/-- Gaps that say no more than a table: no nearer in the table. -/
theorem table_le {n : Nat} {l l' : List Gp} {P P' : Int} {t t' : Nat → Nat → Int} (hg : GpsOK n l) (hg' : GpsOK n l') (h : FWI n l n P t) (hP : 0 ≤ P ∧ P ≤ 5000000000) (h' : FWI n l' n P' t') (hP' : 0 ≤ P' ∧ P' ≤ 5000000000)
    (hd : ∀ a, a < n → 0 ≤ t a a) {v : Nat → Int} (hv : Keeps l v) (hvb : ∀ x, x < n → -10000000000 ≤ v x ∧ v x ≤ 0) (hl : ∀ e, e < l'.length → t (gA l' e) (gB l' e) ≤ gY l' e) : ∀ x y, x < n → y < n → t x y ≤ t' x y := by
  intro x y hx hy
  have hk : Keeps l' fun z => if t z y < 1099511627776 then t z y else 100000000000 + v z := by
    intro e he
    obtain ⟨hA, hB, y0, y1, _, _⟩ := hg'.at he
    have h1 := hl e he
    have bA := h.bd _ y hA hy
    have bB := h.bd _ y hB hy
    have vA := hvb _ hA
    have vB := hvb _ hB
    show (if t (gA l' e) y < 1099511627776 then t (gA l' e) y else 100000000000 + v (gA l' e)) - (if t (gB l' e) y < 1099511627776 then t (gB l' e) y else 100000000000 + v (gB l' e)) ≤ gY l' e
    by_cases hBf : t (gB l' e) y < 1099511627776
    · have h2 := h.tri (gB l' e) hB (gA l' e) y hA hy (by omega) hBf
      have bAB := h.bd _ _ hA hB
      rw [if_pos hBf, if_pos (by omega)]
      omega
    · rw [if_neg hBf]
      by_cases hAf : t (gA l' e) y < 1099511627776
      · rw [if_pos hAf]; omega
      · rw [if_neg hAf]
        have := h.snd v hv _ _ hA hB (by omega)
        omega
  have b0 := h.bd x y hx hy
  have b1 := h'.bd x y hx hy
  by_cases hf : t' x y < 1099511627776
  · have h3 := h'.snd _ hk x y hx hy hf
    have h4 := h.dia y hy
    have h5 := hd y hy
    have h6 := hvb x hx
    rw [if_pos (show t y y < 1099511627776 by omega)] at h3
    by_cases hx' : t x y < 1099511627776
    · rw [if_pos hx'] at h3; omega
    · rw [if_neg hx'] at h3; omega
  · omega
end Go.Proofs.Ytnmklgigmmlgeaa
