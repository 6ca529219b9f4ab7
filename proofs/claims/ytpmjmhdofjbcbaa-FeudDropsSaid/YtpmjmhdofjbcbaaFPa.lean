/- Counting shelvings: sums over all lists of numbers below q; polynomials by their terms. Plain Lean. -/
namespace Go.Proofs.Ytpmjmhdofjbcbaa.H
set_option linter.unusedVariables false
/-! ### sums -/
def sumN (f : Nat → Int) : Nat → Int
  | 0 => 0
  | n + 1 => sumN f n + f n
theorem sumN_congr {f g : Nat → Int} : ∀ {n : Nat}, (∀ i, i < n → f i = g i) → sumN f n = sumN g n
  | 0, _ => rfl
  | n + 1, h => by simp only [sumN]; rw [sumN_congr (fun i hi => h i (by omega)), h n (by omega)]
theorem sumN_add (f g : Nat → Int) : ∀ n, sumN (fun i => f i + g i) n = sumN f n + sumN g n
  | 0 => rfl
  | n + 1 => by simp only [sumN]; rw [sumN_add f g n]; omega
theorem sumN_zero : ∀ n, sumN (fun _ => 0) n = 0
  | 0 => rfl
  | n + 1 => by simp only [sumN]; rw [sumN_zero n]; rfl
theorem sumN_mul (c : Int) (f : Nat → Int) : ∀ n, sumN (fun i => c * f i) n = c * sumN f n
  | 0 => by simp [sumN]
  | n + 1 => by simp only [sumN]; rw [sumN_mul c f n, Int.mul_add]
theorem sumN_swap (f : Nat → Nat → Int) (m : Nat) : ∀ n, sumN (fun i => sumN (fun k => f i k) m) n = sumN (fun k => sumN (fun i => f i k) n) m
  | 0 => by simp only [sumN]; exact (sumN_zero m).symm
  | n + 1 => by simp only [sumN]; rw [sumN_swap f m n, ← sumN_add]
theorem sumN_one {q : Nat} (j : Nat) (f : Nat → Int) (hj : j < q) : sumN (fun c => if c = j then f c else 0) q = f j := by
  induction q with
  | zero => omega
  | succ q ih =>
    simp only [sumN]
    by_cases e : j = q
    · subst e
      rw [if_pos rfl, sumN_congr (g := fun _ => 0) (fun i hi => if_neg (by omega)), sumN_zero]; omega
    · rw [ih (by omega), if_neg (by omega)]; omega
theorem sumN_le {f g : Nat → Int} : ∀ {n : Nat}, (∀ i, i < n → f i ≤ g i) → sumN f n ≤ sumN g n
  | 0, _ => Int.le_refl _
  | n + 1, h => by
    simp only [sumN]
    have := sumN_le (f := f) (g := g) (n := n) (fun i hi => h i (by omega))
    have := h n (by omega)
    omega
theorem sumN_const (c : Int) : ∀ n : Nat, sumN (fun _ => c) n = n * c
  | 0 => by simp [sumN]
  | n + 1 => by simp only [sumN]; rw [sumN_const c n, show ((n + 1 : Nat) : Int) = (n : Int) + 1 by omega, Int.add_mul, Int.one_mul]
theorem sumN_nonneg {f : Nat → Int} {n : Nat} (h : ∀ i, i < n → 0 ≤ f i) : 0 ≤ sumN f n := by
  have := sumN_le (f := fun _ => 0) (g := f) h
  rw [sumN_zero] at this
  exact this
theorem sumN_pos {f : Nat → Int} {n j : Nat} (h : ∀ i, i < n → 0 ≤ f i) (hj : j < n) (hp : 0 < f j) : 0 < sumN f n := by
  have h1 := sumN_le (f := fun c => if c = j then f c else 0) (g := f) (n := n) (fun i hi => by
    split
    · exact Int.le_refl _
    · exact h i hi)
  rw [sumN_one j f hj] at h1
  omega
/-! ### over all lists of n numbers below q -/
def sumL (q : Nat) : Nat → (List Nat → Int) → Int
  | 0, w => w []
  | n + 1, w => sumN (fun c => sumL q n (fun l => w (c :: l))) q
theorem sumL_congr {q : Nat} : ∀ {n : Nat} {w v : List Nat → Int}, (∀ l : List Nat, l.length = n → (∀ x ∈ l, x < q) → w l = v l) → sumL q n w = sumL q n v
  | 0, w, v, h => h [] rfl (fun _ hx => by cases hx)
  | n + 1, w, v, h => sumN_congr fun c hc => sumL_congr fun l hl hx => h (c :: l) (by simp [hl]) (fun x hx2 => by
      rcases List.mem_cons.1 hx2 with e | e
      · rw [e]; exact hc
      · exact hx x e)
theorem sumL_add {q : Nat} : ∀ (n : Nat) (w v : List Nat → Int), sumL q n (fun l => w l + v l) = sumL q n w + sumL q n v
  | 0, _, _ => rfl
  | n + 1, w, v => by
    simp only [sumL]
    rw [← sumN_add]
    exact sumN_congr fun c _ => sumL_add n _ _
theorem sumL_sumN {q : Nat} (m : Nat) : ∀ (n : Nat) (w : Nat → List Nat → Int), sumL q n (fun l => sumN (fun c => w c l) m) = sumN (fun c => sumL q n (w c)) m
  | 0, _ => rfl
  | n + 1, w => by
    simp only [sumL]
    rw [← sumN_swap]
    exact sumN_congr fun c _ => sumL_sumN m n _
theorem sumL_mul {q : Nat} (a : Int) : ∀ (n : Nat) (w : List Nat → Int), sumL q n (fun l => a * w l) = a * sumL q n w
  | 0, _ => rfl
  | n + 1, w => by
    simp only [sumL]
    rw [← sumN_mul]
    exact sumN_congr fun c _ => sumL_mul a n _
theorem sumL_nonneg {q : Nat} : ∀ {n : Nat} {w : List Nat → Int}, (∀ l : List Nat, l.length = n → (∀ x ∈ l, x < q) → 0 ≤ w l) → 0 ≤ sumL q n w
  | 0, w, h => h [] rfl (fun _ hx => by cases hx)
  | n + 1, w, h => sumN_nonneg fun c hc => sumL_nonneg fun l hl hx => h (c :: l) (by simp [hl]) (fun x hx2 => by
      rcases List.mem_cons.1 hx2 with e | e
      · rw [e]; exact hc
      · exact hx x e)
theorem sumL_pos {q : Nat} : ∀ {n : Nat} {w : List Nat → Int}, (∀ l : List Nat, l.length = n → (∀ x ∈ l, x < q) → 0 ≤ w l) → (∃ l : List Nat, l.length = n ∧ (∀ x ∈ l, x < q) ∧ 0 < w l) → 0 < sumL q n w
  | 0, w, _, ⟨l, hl, _, hp⟩ => by
    have : l = [] := List.eq_nil_of_length_eq_zero hl
    subst this
    exact hp
  | n + 1, w, h, ⟨l, hl, hx, hp⟩ => by
    match l, hl, hx, hp with
    | c :: l, hl, hx, hp =>
      have hc := hx c (by simp)
      have hn : ∀ c, c < q → ∀ l : List Nat, l.length = n → (∀ x ∈ l, x < q) → 0 ≤ w (c :: l) := fun c hc l hl hx => h (c :: l) (by simp [hl]) (fun x hx2 => by
        rcases List.mem_cons.1 hx2 with e | e
        · rw [e]; exact hc
        · exact hx x e)
      exact sumN_pos (fun c hc => sumL_nonneg (hn c hc)) hc (sumL_pos (hn c hc) ⟨l, by simpa using hl, fun x hx2 => hx x (by simp [hx2]), hp⟩)
theorem sumL_le {q : Nat} : ∀ {n : Nat} {w v : List Nat → Int}, (∀ l : List Nat, w l ≤ v l) → sumL q n w ≤ sumL q n v
  | 0, _, _, h => h []
  | n + 1, _, _, h => sumN_le fun c _ => sumL_le fun l => h (c :: l)
theorem sumL_one {q : Nat} : ∀ n : Nat, sumL q n (fun _ => 1) = ((q ^ n : Nat) : Int)
  | 0 => rfl
  | n + 1 => by
    simp only [sumL]
    rw [sumL_one n, sumN_const, Nat.pow_succ, Nat.mul_comm, Int.natCast_mul]
theorem sumL_zero {q : Nat} (n : Nat) : sumL q n (fun _ => 0) = 0 := by
  have := sumL_mul (q := q) 0 n (fun _ => 1)
  simpa using this
/-- A list with one number more at place B. -/
def insN (l : List Nat) (B c : Nat) : List Nat := l.take B ++ c :: l.drop B
theorem sumL_ins {q : Nat} : ∀ (B n : Nat) (w : List Nat → Int), B ≤ n → sumL q (n + 1) w = sumL q n (fun l => sumN (fun c => w (insN l B c)) q)
  | 0, n, w, _ => by
    rw [sumL_sumN]
    rfl
  | B + 1, n + 1, w, h => by
    have e : sumL q (n + 1 + 1) w = sumN (fun c0 => sumL q (n + 1) (fun l => w (c0 :: l))) q := rfl
    rw [e]
    have e2 : sumL q (n + 1) (fun l => sumN (fun c => w (insN l (B + 1) c)) q) = sumN (fun c0 => sumL q n (fun l => sumN (fun c => w (insN (c0 :: l) (B + 1) c)) q)) q := rfl
    rw [e2]
    exact sumN_congr fun c0 _ => by rw [sumL_ins B n _ (by omega)]; rfl
  | B + 1, 0, w, h => by omega
theorem insN_getD {l : List Nat} {B : Nat} (hB : B ≤ l.length) (c p : Nat) : (insN l B c).getD p 0 = if p = B then c else if B < p then l.getD (p - 1) 0 else l.getD p 0 := by
  unfold insN
  have ht : (l.take B).length = B := by rw [List.length_take]; omega
  by_cases e : p = B
  · subst e
    rw [if_pos rfl, List.getD_eq_getElem?_getD, List.getElem?_append_right (by omega), ht, Nat.sub_self]
    rfl
  · rw [if_neg e]
    by_cases e2 : B < p
    · rw [if_pos e2, List.getD_eq_getElem?_getD, List.getElem?_append_right (by omega), ht, show p - B = (p - B - 1) + 1 by omega, List.getElem?_cons_succ, List.getElem?_drop, show B + (p - B - 1) = p - 1 by omega, List.getD_eq_getElem?_getD]
    · rw [if_neg e2, List.getD_eq_getElem?_getD, List.getElem?_append_left (by omega), List.getElem?_take, if_pos (by omega), List.getD_eq_getElem?_getD]
/-! ### polynomials, by their terms -/
def ev (l : List Int) (x : Int) : Int := l.foldr (fun a s => a + x * s) 0
theorem ev_cons (a : Int) (l : List Int) (x : Int) : ev (a :: l) x = a + x * ev l x := rfl
theorem ev_nil (x : Int) : ev [] x = 0 := rfl
theorem ev_zero : ∀ (l : List Int) (m : Nat), (∀ q : Nat, m ≤ q → ev l q = 0) → ∀ a ∈ l, a = 0
  | [], _, _ => fun a ha => by cases ha
  | b :: l, m, h => by
    have hb : b = 0 := by
      have h1 := h (m + b.natAbs + 1) (by omega)
      rw [ev_cons] at h1
      have hd : ((m + b.natAbs + 1 : Nat) : Int) ∣ b := ⟨- ev l (m + b.natAbs + 1 : Nat), by rw [Int.mul_neg]; omega⟩
      have := Int.natAbs_dvd_natAbs.2 hd
      rcases Nat.eq_zero_or_pos b.natAbs with e | e
      · omega
      · have := Nat.le_of_dvd e this
        simp at this
        omega
    have ht : ∀ q : Nat, m + 1 ≤ q → ev l q = 0 := fun q hq => by
      have h1 := h q (by omega)
      rw [ev_cons, hb, Int.zero_add] at h1
      rcases Int.mul_eq_zero.1 h1 with e | e
      · omega
      · exact e
    intro a ha
    rcases List.mem_cons.1 ha with e | e
    · rw [e]; exact hb
    · exact ev_zero l (m + 1) ht a e
def subL (l m : List Int) : List Int := List.zipWith (· - ·) l m
theorem ev_sub (x : Int) : ∀ (l m : List Int), l.length = m.length → ev (subL l m) x = ev l x - ev m x
  | [], [], _ => rfl
  | a :: l, b :: m, h => by
    have ih := ev_sub x l m (by simpa using h)
    show (a - b) + x * ev (subL l m) x = _
    rw [ih, ev_cons, ev_cons, Int.mul_sub]
    omega
theorem ev_ext {l m : List Int} (hl : l.length = m.length) (k : Nat) (h : ∀ q : Nat, k ≤ q → ev l q = ev m q) : l = m := by
  have h0 := ev_zero (subL l m) k (fun q hq => by rw [ev_sub _ _ _ hl, h q hq]; omega)
  apply List.ext_getElem hl
  intro i h1 h2
  have := h0 (l[i] - m[i]) (by
    have : (subL l m)[i]'(by simp [subL]; omega) = l[i] - m[i] := by simp [subL]
    rw [← this]
    exact List.getElem_mem _)
  omega
/-- What is the value of some terms. -/
def Poly (f : Int → Int) : Prop := ∃ l : List Int, ∀ x, f x = ev l x
theorem ev_append_zero (x : Int) : ∀ (l : List Int) (n : Nat), ev (l ++ List.replicate n 0) x = ev l x
  | [], n => by
    induction n with
    | zero => rfl
    | succ n ih => rw [List.replicate_succ]; show 0 + x * ev (List.replicate n 0) x = _; rw [List.nil_append] at ih; rw [ih, ev_nil]; simp
  | a :: l, n => by rw [List.cons_append, ev_cons, ev_cons, ev_append_zero x l n]
def addL : List Int → List Int → List Int
  | [], m => m
  | l, [] => l
  | a :: l, b :: m => (a + b) :: addL l m
theorem ev_add (x : Int) : ∀ (l m : List Int), ev (addL l m) x = ev l x + ev m x
  | [], m => by rw [addL, ev_nil]; omega
  | a :: l, [] => by rw [addL, ev_nil]; omega; simp
  | a :: l, b :: m => by
    rw [addL, ev_cons, ev_cons, ev_cons, ev_add x l m, Int.mul_add]
    omega
theorem ev_smul (c x : Int) : ∀ l : List Int, ev (l.map (c * ·)) x = c * ev l x
  | [] => by simp [ev_nil]
  | a :: l => by
    rw [List.map_cons, ev_cons, ev_cons, ev_smul c x l, Int.mul_add, Int.mul_left_comm]
theorem ev_shift (x : Int) (l : List Int) : ev (0 :: l) x = x * ev l x := by rw [ev_cons, Int.zero_add]
theorem Poly.const (c : Int) : Poly (fun _ => c) := ⟨[c], fun x => by show c = ev [c] x; rw [ev_cons, ev_nil]; omega⟩
theorem Poly.add {f g : Int → Int} (hf : Poly f) (hg : Poly g) : Poly (fun x => f x + g x) := by
  obtain ⟨l, hl⟩ := hf
  obtain ⟨m, hm⟩ := hg
  exact ⟨addL l m, fun x => by rw [ev_add, ← hl, ← hm]⟩
theorem Poly.smul {f : Int → Int} (c : Int) (hf : Poly f) : Poly (fun x => c * f x) := by
  obtain ⟨l, hl⟩ := hf
  exact ⟨l.map (c * ·), fun x => by rw [ev_smul, ← hl]⟩
theorem Poly.xmul {f : Int → Int} (hf : Poly f) : Poly (fun x => x * f x) := by
  obtain ⟨l, hl⟩ := hf
  exact ⟨0 :: l, fun x => by rw [ev_shift, ← hl]⟩
theorem Poly.lin {f : Int → Int} (a : Int) (hf : Poly f) : Poly (fun x => (x + a) * f x) := by
  obtain ⟨l, hl⟩ := hf
  refine ⟨addL (0 :: l) (l.map (a * ·)), fun x => ?_⟩
  show (x + a) * f x = _
  rw [ev_add, ev_shift, ev_smul, ← hl, Int.add_mul]
theorem Poly.sum {f : Nat → Int → Int} : ∀ n : Nat, (∀ i, i < n → Poly (f i)) → Poly (fun x => sumN (fun i => f i x) n)
  | 0, _ => Poly.const 0
  | n + 1, h => (Poly.sum n (fun i hi => h i (by omega))).add (h n (by omega))
/-- Two polynomials that agree at all large numbers agree everywhere. -/
theorem Poly.ext {f g : Int → Int} (hf : Poly f) (hg : Poly g) (k : Nat) (h : ∀ q : Nat, k ≤ q → f q = g q) (x : Int) : f x = g x := by
  obtain ⟨l, hl⟩ := hf
  obtain ⟨m, hm⟩ := hg
  have e : l ++ List.replicate m.length 0 = m ++ List.replicate l.length 0 := ev_ext (by simp; omega) k (fun q hq => by rw [ev_append_zero, ev_append_zero, ← hl, ← hm]; exact h q hq)
  rw [hl, hm, ← ev_append_zero x l m.length, ← ev_append_zero x m l.length, e]
end Go.Proofs.Ytpmjmhdofjbcbaa.H
