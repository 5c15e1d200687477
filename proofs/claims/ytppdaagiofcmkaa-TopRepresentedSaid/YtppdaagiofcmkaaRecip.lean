/- Jacobi's symbol counted as by Gauss and Schering is multiplicative and reciprocal; on odd moduli alone. -/
namespace Go.Proofs.Ytppdaagiofcmkaa.Recip
/- Quadratic reciprocity for Jacobi's symbol, by the counts of Gauss and Schering and Eisenstein's lattice points, without primes. -/
/-- the sum over a list of numbers below h -/
def S (f : Nat → Nat) (h : Nat) : Nat := ((List.range h).map f).sum

theorem S_succ (f : Nat → Nat) (h : Nat) : S f (h + 1) = S f h + f h := by
  unfold S; rw [List.range_succ]; simp

theorem S_zero (f : Nat → Nat) : S f 0 = 0 := rfl

theorem S_congr {f g : Nat → Nat} {h : Nat} (e : ∀ j, j < h → f j = g j) : S f h = S g h := by
  induction h with
  | zero => rfl
  | succ h ih => rw [S_succ, S_succ, ih (fun j hj => e j (by omega)), e h (by omega)]

theorem S_add (f g : Nat → Nat) (h : Nat) : S (fun j => f j + g j) h = S f h + S g h := by
  induction h with
  | zero => rfl
  | succ h ih => rw [S_succ, S_succ, S_succ, ih]; omega

theorem S_mul (c : Nat) (f : Nat → Nat) (h : Nat) : S (fun j => c * f j) h = c * S f h := by
  induction h with
  | zero => simp [S_zero]
  | succ h ih => rw [S_succ, S_succ, ih, Nat.mul_add]

theorem S_const (c h : Nat) : S (fun _ => c) h = h * c := by
  induction h with
  | zero => simp [S_zero]
  | succ h ih => rw [S_succ, ih, Nat.succ_mul]

theorem S_mod (f g : Nat → Nat) (m h : Nat) (e : ∀ j, j < h → f j % m = g j % m) : S f h % m = S g h % m := by
  induction h with
  | zero => rfl
  | succ h ih =>
    rw [S_succ, S_succ, Nat.add_mod, ih (fun j hj => e j (by omega)), e h (by omega), ← Nat.add_mod]

theorem S_swap (f : Nat → Nat → Nat) (h k : Nat) : S (fun j => S (fun i => f i j) k) h = S (fun i => S (fun j => f i j) h) k := by
  induction h with
  | zero =>
    rw [S_zero]
    induction k with
    | zero => rfl
    | succ k ih => rw [S_succ, ← ih]; rfl
  | succ h ih =>
    rw [S_succ, ih, ← S_add]
    exact S_congr (fun j _ => (S_succ _ _).symm)

theorem short (h : Nat) : ∀ l : List Nat, l.Nodup → (∀ x ∈ l, x < h) → l.length ≤ h := by
  induction h with
  | zero =>
    intro l _ hl
    cases l with
    | nil => simp
    | cons x l => exact absurd (hl x (by simp)) (by omega)
  | succ h ih =>
    intro l hn hl
    have h1 := ih (l.erase h) (hn.erase h) (fun x hx => by
      rw [hn.mem_erase_iff] at hx
      have := hl x hx.2
      omega)
    have h2 := List.length_erase (l := l) (a := h)
    split at h2 <;> omega

theorem perm_range (h : Nat) : ∀ l : List Nat, l.Nodup → (∀ x ∈ l, x < h) → l.length = h → l.Perm (List.range h) := by
  induction h with
  | zero =>
    intro l _ _ e
    rw [List.length_eq_zero_iff] at e
    subst e; exact List.Perm.refl _
  | succ h ih =>
    intro l hn hl e
    have hm : h ∈ l := by
      apply Classical.byContradiction
      intro hc
      have := short h l hn (fun x hx => by
        have := hl x hx
        have : x ≠ h := fun e => hc (e ▸ hx)
        omega)
      omega
    have h1 := ih (l.erase h) (hn.erase h) (fun x hx => by
      rw [hn.mem_erase_iff] at hx
      have := hl x hx.2
      omega) (by rw [List.length_erase_of_mem hm]; omega)
    rw [List.range_succ]
    exact (List.perm_cons_erase hm).trans ((h1.cons h).trans (List.perm_append_comm (l₁ := [h])))

theorem S_perm (f p : Nat → Nat) (h : Nat) (hp : ∀ j, j < h → p j < h) (hi : ∀ i j, i < h → j < h → p i = p j → i = j) :
    S (fun j => f (p j)) h = S f h := by
  have e : ((List.range h).map p).Perm (List.range h) := by
    apply perm_range
    · rw [List.Nodup, List.pairwise_map]
      have := List.nodup_range (n := h)
      rw [List.Nodup] at this
      refine List.Pairwise.imp_of_mem ?_ this
      intro a b ha hb hab hpe
      exact hab (hi a b (by simpa using ha) (by simpa using hb) hpe)
    · intro x hx
      rw [List.mem_map] at hx
      obtain ⟨j, hj, rfl⟩ := hx
      exact hp j (by simpa using hj)
    · simp
  have e2 := (e.map f).sum_nat
  unfold S
  rw [← e2, List.map_map]; rfl

/-- one if the least residue of a j is above the half of n -/
def up (a n j : Nat) : Nat := if n / 2 < a * (j + 1) % n then 1 else 0
def fold (a n j : Nat) : Nat := if n / 2 < a * (j + 1) % n then n - a * (j + 1) % n - 1 else a * (j + 1) % n - 1
def s (a n : Nat) : Nat := S (up a n) (n / 2)
def sgn (k : Nat) : Int := if k % 2 = 0 then 1 else -1
/-- Jacobi's symbol of a and an odd n, as Gauss and Schering count it -/
def G (a n : Nat) : Int := if Nat.gcd a n = 1 then sgn (s a n) else 0

theorem sgn_add (a b : Nat) : sgn (a + b) = sgn a * sgn b := by
  unfold sgn
  rcases Nat.mod_two_eq_zero_or_one a with ha | ha <;> rcases Nat.mod_two_eq_zero_or_one b with hb | hb <;>
    simp [ha, hb, Nat.add_mod]

theorem sgn_mod {a b : Nat} (h : a % 2 = b % 2) : sgn a = sgn b := by unfold sgn; rw [h]

theorem coprime_res_pos {a n j : Nat} (hn : n % 2 = 1) (_h1 : 1 < n) (hc : Nat.gcd a n = 1) (hj : j < n / 2) : 0 < a * (j + 1) % n := by
  apply Nat.pos_of_ne_zero
  intro h0
  have hd : n ∣ a * (j + 1) := Nat.dvd_of_mod_eq_zero h0
  have hd2 : n ∣ j + 1 := Nat.Coprime.dvd_of_dvd_mul_left (Nat.Coprime.symm hc) hd
  have := Nat.le_of_dvd (by omega) hd2
  omega

theorem fold_lt {a n j : Nat} (hn : n % 2 = 1) (h1 : 1 < n) (hc : Nat.gcd a n = 1) (hj : j < n / 2) : fold a n j < n / 2 := by
  have hp := coprime_res_pos hn h1 hc hj
  have hl : a * (j + 1) % n < n := Nat.mod_lt _ (by omega)
  unfold fold
  split <;> omega

theorem fold_inj {a n i j : Nat} (hn : n % 2 = 1) (h1 : 1 < n) (hc : Nat.gcd a n = 1) (hi : i < n / 2) (hj : j < n / 2)
    (e : fold a n i = fold a n j) : i = j := by
  have hpi := coprime_res_pos hn h1 hc hi
  have hli : a * (i + 1) % n < n := Nat.mod_lt _ (by omega)
  have hpj := coprime_res_pos hn h1 hc hj
  have hlj : a * (j + 1) % n < n := Nat.mod_lt _ (by omega)
  have key : ∀ x y : Nat, x < n → y < n → a * x % n = a * y % n → x = y := by
    have half : ∀ x y : Nat, x ≤ y → y < n → a * x % n = a * y % n → x = y := by
      intro x y hxy hy e
      have e0 : a * y = a * x + a * (y - x) := by rw [← Nat.mul_add]; congr 1; omega
      have hd : n ∣ a * (y - x) := by
        have := (Nat.sub_mod_eq_zero_of_mod_eq e.symm)
        rw [e0, Nat.add_sub_cancel_left] at this
        exact Nat.dvd_of_mod_eq_zero this
      have hd2 : n ∣ y - x := Nat.Coprime.dvd_of_dvd_mul_left (Nat.Coprime.symm hc) hd
      by_cases hz : y - x = 0
      · omega
      · have := Nat.le_of_dvd (by omega) hd2
        omega
    intro x y hx hy e
    by_cases hxy : x ≤ y
    · exact half x y hxy hy e
    · exact (half y x (by omega) hx e.symm).symm
  have opp : ∀ x y : Nat, a * x % n + a * y % n = n → a * (x + y) % n = 0 := by
    intro x y e
    rw [Nat.mul_add, Nat.add_mod, e, Nat.mod_self]
  have zero : ∀ x : Nat, 0 < x → x < n → a * x % n ≠ 0 := by
    intro x h0 hx e
    have hd2 : n ∣ x := Nat.Coprime.dvd_of_dvd_mul_left (Nat.Coprime.symm hc) (Nat.dvd_of_mod_eq_zero e)
    have := Nat.le_of_dvd h0 hd2
    omega
  unfold fold at e
  split at e <;> split at e
  · have := key (i + 1) (j + 1) (by omega) (by omega) (by omega); omega
  · exact absurd (opp (i + 1) (j + 1) (by omega)) (zero _ (by omega) (by omega))
  · exact absurd (opp (i + 1) (j + 1) (by omega)) (zero _ (by omega) (by omega))
  · have := key (i + 1) (j + 1) (by omega) (by omega) (by omega); omega

/-- the residue of a j in terms of its fold -/
theorem res_fold {a n j : Nat} (hn : n % 2 = 1) (h1 : 1 < n) (hc : Nat.gcd a n = 1) (hj : j < n / 2) :
    a * (j + 1) % n = if n / 2 < a * (j + 1) % n then n - (fold a n j + 1) else fold a n j + 1 := by
  have hp := coprime_res_pos hn h1 hc hj
  have hl : a * (j + 1) % n < n := Nat.mod_lt _ (by omega)
  unfold fold
  split <;> omega

theorem up_mul {a b n j : Nat} (hn : n % 2 = 1) (h1 : 1 < n) (ha : Nat.gcd a n = 1) (hb : Nat.gcd b n = 1) (hj : j < n / 2) :
    up (a * b) n j % 2 = (up a n (fold b n j) + up b n j) % 2 := by
  have hf := fold_lt hn h1 hb hj
  have hp := coprime_res_pos hn h1 ha hf
  have hl : a * (fold b n j + 1) % n < n := Nat.mod_lt _ (by omega)
  have e0 := res_fold hn h1 hb hj
  have e1 : a * b * (j + 1) % n = a * (b * (j + 1) % n) % n := by
    rw [Nat.mul_assoc, Nat.mul_mod, Nat.mul_mod a (b * (j + 1) % n), Nat.mod_mod]
  by_cases hu : n / 2 < b * (j + 1) % n
  · rw [if_pos hu] at e0
    have e2 : a * b * (j + 1) % n = n - a * (fold b n j + 1) % n := by
      rw [e1, e0]
      have hs : a * (n - (fold b n j + 1)) + a * (fold b n j + 1) = a * n := by rw [← Nat.mul_add]; congr 1; omega
      have hz : (a * (n - (fold b n j + 1)) % n + a * (fold b n j + 1) % n) % n = 0 := by
        rw [← Nat.add_mod, hs, Nat.mul_mod_left]
      have hl2 : a * (n - (fold b n j + 1)) % n < n := Nat.mod_lt _ (by omega)
      obtain ⟨q, hq⟩ := Nat.dvd_of_mod_eq_zero hz
      have : q = 1 := by
        rcases q with _ | _ | q
        · omega
        · rfl
        · have : n * (q + 1 + 1) = n * q + n + n := by rw [Nat.mul_add, Nat.mul_add]; omega
          omega
      subst this
      omega
    unfold up
    rw [e2]
    simp only [if_pos hu]
    split <;> split <;> omega
  · rw [if_neg hu] at e0
    unfold up
    rw [e1, e0]
    rw [if_neg (show ¬ n / 2 < fold b n j + 1 from by omega)]
    rfl

theorem s_mul {a b n : Nat} (hn : n % 2 = 1) (h1 : 1 < n) (ha : Nat.gcd a n = 1) (hb : Nat.gcd b n = 1) :
    s (a * b) n % 2 = (s a n + s b n) % 2 := by
  have e1 : s (a * b) n % 2 = S (fun j => up a n (fold b n j) + up b n j) (n / 2) % 2 :=
    S_mod _ _ 2 _ (fun j hj => up_mul hn h1 ha hb hj)
  rw [e1, S_add, S_perm (up a n) (fold b n) (n / 2) (fun j hj => fold_lt hn h1 hb hj) (fun i j hi hj e => fold_inj hn h1 hb hi hj e)]
  rfl

theorem gcd_mul_one {a b n : Nat} : Nat.gcd (a * b) n = 1 ↔ Nat.gcd a n = 1 ∧ Nat.gcd b n = 1 := by
  constructor
  · intro h
    exact ⟨Nat.Coprime.coprime_mul_right h, Nat.Coprime.coprime_mul_left h⟩
  · intro ⟨h1, h2⟩
    exact Nat.Coprime.mul_left h1 h2

theorem G_one_right (a : Nat) : G a 1 = 1 := by
  unfold G
  rw [if_pos (Nat.gcd_one_right a)]
  simp [s, S_zero, sgn]

theorem G_mul (a b n : Nat) (hn : n % 2 = 1) : G (a * b) n = G a n * G b n := by
  by_cases h1 : 1 < n
  · unfold G
    by_cases hc : Nat.gcd (a * b) n = 1
    · obtain ⟨ha, hb⟩ := gcd_mul_one.mp hc
      rw [if_pos hc, if_pos ha, if_pos hb, ← sgn_add]
      exact sgn_mod (s_mul hn h1 ha hb)
    · rw [if_neg hc]
      by_cases ha : Nat.gcd a n = 1
      · rw [if_neg (fun hb => hc (gcd_mul_one.mpr ⟨ha, hb⟩))]; simp
      · rw [if_neg ha]; simp
  · have : n = 1 := by omega
    subst this
    simp [G_one_right]

theorem G_mod (a n : Nat) : G (a % n) n = G a n := by
  have e : s (a % n) n = s a n := by
    unfold s
    apply S_congr
    intro j _
    unfold up
    rw [show a % n * (j + 1) % n = a * (j + 1) % n from by rw [Nat.mul_mod, Nat.mod_mod, ← Nat.mul_mod]]
  have e2 : Nat.gcd (a % n) n = Nat.gcd a n := by rw [Nat.gcd_comm a, Nat.gcd_rec n a]
  unfold G
  simp only [e, e2]

/-! the quotients -/
def Q (a n : Nat) : Nat := S (fun j => a * (j + 1) / n) (n / 2)

theorem fold_res_mod {a n j : Nat} (hn : n % 2 = 1) (h1 : 1 < n) (hc : Nat.gcd a n = 1) (hj : j < n / 2) :
    (a * (j + 1) % n) % 2 = (fold a n j + 1 + up a n j) % 2 := by
  have hf := fold_lt hn h1 hc hj
  have e := res_fold hn h1 hc hj
  unfold up
  by_cases hu : n / 2 < a * (j + 1) % n
  · rw [if_pos hu] at e
    rw [if_pos hu, e]; omega
  · rw [if_neg hu] at e
    rw [if_neg hu, e]

/-- Eisenstein's form of Gauss's lemma -/
theorem s_eq_Q {a n : Nat} (hn : n % 2 = 1) (h1 : 1 < n) (ha : a % 2 = 1) (hc : Nat.gcd a n = 1) : s a n % 2 = Q a n % 2 := by
  have e1 : S (fun j => a * (j + 1)) (n / 2) = n * Q a n + S (fun j => a * (j + 1) % n) (n / 2) := by
    unfold Q
    rw [← S_mul, ← S_add]
    exact S_congr (fun j _ => (Nat.div_add_mod _ _).symm)
  have e2 : S (fun j => a * (j + 1) % n) (n / 2) % 2 = (S (fun j => j + 1) (n / 2) + s a n) % 2 := by
    rw [S_mod _ (fun j => fold a n j + 1 + up a n j) 2 _ (fun j hj => fold_res_mod hn h1 hc hj), S_add]
    rw [S_perm (fun i => i + 1) (fold a n) (n / 2) (fun j hj => fold_lt hn h1 hc hj) (fun i j hi hj e => fold_inj hn h1 hc hi hj e)]
    rfl
  rw [S_mul] at e1
  have e3 : (a * S (fun j => j + 1) (n / 2)) % 2 = S (fun j => j + 1) (n / 2) % 2 := by rw [Nat.mul_mod, ha, Nat.one_mul, Nat.mod_mod]
  have e4 : (n * Q a n) % 2 = Q a n % 2 := by rw [Nat.mul_mod, hn, Nat.one_mul, Nat.mod_mod]
  omega

theorem S_bound (c h : Nat) : S (fun i => if i + 1 ≤ c then 1 else 0) h = if c ≤ h then c else h := by
  induction h with
  | zero => rw [S_zero]; split <;> omega
  | succ h ih => rw [S_succ, ih]; split <;> split <;> split <;> omega

theorem quot_count {a n j : Nat} (hn : n % 2 = 1) (ha : a % 2 = 1) (hj : j < n / 2) :
    a * (j + 1) / n = S (fun i => if n * (i + 1) ≤ a * (j + 1) then 1 else 0) (a / 2) := by
  have e : S (fun i => if n * (i + 1) ≤ a * (j + 1) then 1 else 0) (a / 2) = S (fun i => if i + 1 ≤ a * (j + 1) / n then 1 else 0) (a / 2) := by
    apply S_congr
    intro i _
    have : n * (i + 1) ≤ a * (j + 1) ↔ i + 1 ≤ a * (j + 1) / n := by
      rw [Nat.le_div_iff_mul_le (by omega), Nat.mul_comm]
    simp only [this]
  rw [e, S_bound, if_pos]
  have h2 : a * (j + 1) / n < a / 2 + 1 := by
    rw [Nat.div_lt_iff_lt_mul (by omega)]
    have x1 : 2 * (a * (j + 1)) ≤ a * (n - 1) := by
      rw [← Nat.mul_assoc, Nat.mul_comm 2 a, Nat.mul_assoc]
      exact Nat.mul_le_mul_left a (by omega)
    have x2 : a * (n - 1) + a = a * n := by
      have : a * (n - 1) + a = a * (n - 1 + 1) := by rw [Nat.mul_add, Nat.mul_one]
      rw [this]; congr 1; omega
    have x3 : 2 * ((a / 2 + 1) * n) = a * n + n := by
      rw [← Nat.mul_assoc, show 2 * (a / 2 + 1) = a + 1 from by omega, Nat.add_mul, Nat.one_mul]
    omega
  omega

theorem lattice {a n : Nat} (hn : n % 2 = 1) (ha : a % 2 = 1) (hc : Nat.gcd a n = 1) : Q a n + Q n a = (n / 2) * (a / 2) := by
  have e1 : Q a n = S (fun j => S (fun i => if n * (i + 1) ≤ a * (j + 1) then 1 else 0) (a / 2)) (n / 2) :=
    S_congr (fun j hj => quot_count hn ha hj)
  have e2 : Q n a = S (fun i => S (fun j => if a * (j + 1) ≤ n * (i + 1) then 1 else 0) (n / 2)) (a / 2) :=
    S_congr (fun j hj => quot_count ha hn hj)
  rw [e1, e2, ← S_swap (fun i j => if a * (j + 1) ≤ n * (i + 1) then 1 else 0) (n / 2) (a / 2), ← S_add]
  have e3 : ∀ j, j < n / 2 → S (fun i => if n * (i + 1) ≤ a * (j + 1) then 1 else 0) (a / 2) + S (fun i => if a * (j + 1) ≤ n * (i + 1) then 1 else 0) (a / 2) = a / 2 := by
    intro j hj
    rw [← S_add, S_congr (g := fun _ => 1), S_const, Nat.mul_one]
    intro i hi
    have hne : n * (i + 1) ≠ a * (j + 1) := by
      intro e
      have hd : n ∣ a * (j + 1) := ⟨i + 1, e.symm⟩
      have hd2 : n ∣ j + 1 := Nat.Coprime.dvd_of_dvd_mul_left (Nat.Coprime.symm hc) hd
      have := Nat.le_of_dvd (by omega) hd2
      omega
    split <;> split <;> omega
  rw [S_congr (g := fun _ => a / 2) e3, S_const]

theorem G_recip {a n : Nat} (hn : n % 2 = 1) (ha : a % 2 = 1) : G a n = sgn (a / 2 * (n / 2)) * G n a := by
  by_cases hc : Nat.gcd a n = 1
  · have hc' : Nat.gcd n a = 1 := by rw [Nat.gcd_comm]; exact hc
    by_cases h1 : 1 < n
    · by_cases h2 : 1 < a
      · unfold G
        rw [if_pos hc, if_pos hc', ← sgn_add]
        apply sgn_mod
        have x1 := s_eq_Q hn h1 ha hc
        have x2 := s_eq_Q ha h2 hn hc'
        have x3 := lattice hn ha hc
        rw [Nat.mul_comm (n / 2)] at x3
        omega
      · have : a = 1 := by omega
        subst this
        rw [G_one_right]
        unfold G
        rw [if_pos hc]
        have x1 := s_eq_Q hn h1 ha hc
        have x3 : Q 1 n = 0 := by
          unfold Q
          rw [S_congr (g := fun _ => 0), S_const]
          · omega
          · intro j hj
            rw [Nat.one_mul]
            exact Nat.div_eq_of_lt (by omega)
        rw [sgn_mod (a := s 1 n) (b := 0) (by omega)]
        simp [sgn]
    · have : n = 1 := by omega
      subst this
      rw [G_one_right]
      by_cases h2 : 1 < a
      · unfold G
        rw [if_pos hc']
        have x1 := s_eq_Q ha h2 hn hc'
        have x3 : Q 1 a = 0 := by
          unfold Q
          rw [S_congr (g := fun _ => 0), S_const]
          · omega
          · intro j hj
            rw [Nat.one_mul]
            exact Nat.div_eq_of_lt (by omega)
        rw [sgn_mod (a := s 1 a) (b := 0) (by omega)]
        simp [sgn]
      · have : a = 1 := by omega
        subst this
        simp [G_one_right, sgn]
  · have hc' : ¬ Nat.gcd n a = 1 := by rw [Nat.gcd_comm]; exact hc
    unfold G
    rw [if_neg hc, if_neg hc']; simp

theorem S_step (c h : Nat) : S (fun i => if c < i + 1 then 1 else 0) h = h - c := by
  induction h with
  | zero => rw [S_zero]; omega
  | succ h ih => rw [S_succ, ih]; split <;> omega

theorem G_two {n : Nat} (hn : n % 2 = 1) : G 2 n = if n % 8 = 1 ∨ n % 8 = 7 then 1 else -1 := by
  by_cases h1 : 1 < n
  · have hc : Nat.gcd 2 n = 1 := by
      rw [Nat.gcd_rec, hn]; rfl
    unfold G
    rw [if_pos hc]
    have e : s 2 n = n / 2 - n / 4 := by
      unfold s
      rw [← S_step]
      apply S_congr
      intro j hj
      unfold up
      rw [Nat.mod_eq_of_lt (show 2 * (j + 1) < n from by omega)]
      split <;> split <;> omega
    unfold sgn
    rw [e]
    split <;> split <;> omega
  · have : n = 1 := by omega
    subst this
    simp [G_one_right]

theorem G_neg {n : Nat} (hn : n % 2 = 1) : G (n - 1) n = sgn (n / 2) := by
  by_cases h1 : 1 < n
  · have hc : Nat.gcd (n - 1) n = 1 := by
      have hd := Nat.dvd_sub (Nat.gcd_dvd_right (n - 1) n) (Nat.gcd_dvd_left (n - 1) n)
      rw [show n - (n - 1) = 1 from by omega] at hd
      exact Nat.dvd_one.mp hd
    unfold G
    rw [if_pos hc]
    have e : s (n - 1) n = n / 2 := by
      unfold s
      rw [S_congr (g := fun _ => 1), S_const, Nat.mul_one]
      intro j hj
      unfold up
      have : (n - 1) * (j + 1) % n = n - (j + 1) := by
        have : (n - 1) * (j + 1) = n * j + (n - (j + 1)) := by
          have := Nat.sub_mul n 1 (j + 1)
          rw [this, Nat.mul_add]; omega
        rw [this, Nat.mul_add_mod, Nat.mod_eq_of_lt (by omega)]
      rw [this, if_pos (by omega)]
    rw [e]
  · have : n = 1 := by omega
    subst this
    simp [G_one_right, sgn]

theorem G_sq (a n : Nat) : G a n = 0 ∨ G a n = 1 ∨ G a n = -1 := by
  unfold G
  split
  · unfold sgn; split <;> simp
  · simp

theorem G_even {a n : Nat} (hn : n % 2 = 1) (ha : a % 2 = 0) : G a n = G 2 n * G (a / 2) n := by
  rw [← G_mul 2 (a / 2) n hn]
  congr 1; omega

theorem G_add (a n : Nat) : G (a + n) n = G a n := by
  rw [← G_mod (a + n), Nat.add_mod_right, G_mod]

theorem half_mul {m n : Nat} (hm : m % 2 = 1) (hn : n % 2 = 1) : (m * n) / 2 % 2 = (m / 2 + n / 2) % 2 := by
  obtain ⟨x, rfl⟩ : ∃ x, m = 2 * x + 1 := ⟨m / 2, by omega⟩
  obtain ⟨y, rfl⟩ : ∃ y, n = 2 * y + 1 := ⟨n / 2, by omega⟩
  have e : (2 * x + 1) * (2 * y + 1) = 2 * (2 * (x * y) + x + y) + 1 := by
    rw [Nat.mul_add, Nat.add_mul, Nat.mul_one, Nat.one_mul, Nat.mul_assoc, Nat.mul_left_comm x 2 y]; omega
  rw [e]; omega

theorem odd_mul {m n : Nat} (hm : m % 2 = 1) (hn : n % 2 = 1) : m * n % 2 = 1 := by rw [Nat.mul_mod, hm, hn]

theorem sgn_two (a : Nat) : sgn a * sgn a = 1 := by unfold sgn; split <;> rfl

theorem G_mul_right_odd {a m n : Nat} (ha : a % 2 = 1) (hm : m % 2 = 1) (hn : n % 2 = 1) : G a (m * n) = G a m * G a n := by
  have hmn := odd_mul hm hn
  rw [G_recip hmn ha, G_recip hm ha, G_recip hn ha, G_mul m n a ha]
  have e : sgn (a / 2 * (m * n / 2)) = sgn (a / 2 * (m / 2)) * sgn (a / 2 * (n / 2)) := by
    rw [← sgn_add, ← Nat.mul_add]
    apply sgn_mod
    rw [Nat.mul_mod, half_mul hm hn, ← Nat.mul_mod]
  rw [e]
  simp only [Int.mul_assoc, Int.mul_left_comm]

/-- The second argument, too, is multiplicative. -/
theorem G_mul_right {a m n : Nat} (hm : m % 2 = 1) (hn : n % 2 = 1) : G a (m * n) = G a m * G a n := by
  rcases Nat.mod_two_eq_zero_or_one a with ha | ha
  · have hmn := odd_mul hm hn
    have e := G_mul_right_odd (a := a + m * n) (by omega) hm hn
    rw [G_add] at e
    rw [e, ← G_mod (a + m * n) m, Nat.add_mul_mod_self_left, G_mod, ← G_mod (a + m * n) n, Nat.add_mul_mod_self_right, G_mod]
  · exact G_mul_right_odd ha hm hn

/-- The symbol of -D and an odd k. -/
def neg (D k : Nat) : Int := G ((k - 1) * D) k

theorem neg_eq {D k : Nat} (hk : k % 2 = 1) : neg D k = sgn (k / 2) * G D k := by
  unfold neg
  rw [G_mul _ _ _ hk, G_neg hk]

/-- D = 3 modulo 4: the symbol of -D and k, as a symbol modulo D. -/
theorem neg_odd {D k : Nat} (hk : k % 2 = 1) (hD : D % 4 = 3) : neg D k = G k D := by
  rw [neg_eq hk, G_recip (a := D) (n := k) hk (by omega), ← Int.mul_assoc, ← sgn_add]
  have : sgn (k / 2 + D / 2 * (k / 2)) = sgn 0 := by
    apply sgn_mod
    rcases Nat.mod_two_eq_zero_or_one (k / 2) with h | h
    · rw [Nat.add_mod, Nat.mul_mod, h]; simp
    · rw [Nat.add_mod, Nat.mul_mod, h, show D / 2 % 2 = 1 from by omega]
  rw [this]; simp [sgn]

theorem two_odd {D : Nat} (hD : D % 4 = 3) : G 2 D = if D % 8 = 7 then 1 else -1 := by
  rw [G_two (by omega)]
  split <;> split <;> omega

theorem G_two_sq {k : Nat} (hk : k % 2 = 1) : G 2 k * G 2 k = 1 := by
  rw [G_two hk]; split <;> rfl

theorem G_four {m k : Nat} (hk : k % 2 = 1) : G (4 * m) k = G m k := by
  rw [show 4 * m = 2 * (2 * m) from by omega, G_mul _ _ _ hk, G_mul _ _ _ hk, ← Int.mul_assoc, G_two_sq hk, Int.one_mul]

theorem sgn_half {k : Nat} (hk : k % 2 = 1) : sgn (k / 2) = if k % 4 = 1 then 1 else -1 := by
  unfold sgn
  split <;> split <;> omega

theorem neg_four {m k : Nat} (hk : k % 2 = 1) (hm : m % 4 = 1) : neg (4 * m) k = (if k % 4 = 1 then 1 else -1) * G k m := by
  rw [neg_eq hk, G_four hk, G_recip (a := m) (n := k) hk (by omega), ← sgn_half hk]
  have : sgn (m / 2 * (k / 2)) = sgn 0 := by
    apply sgn_mod
    rw [Nat.mul_mod, show m / 2 % 2 = 0 from by omega]; simp
  rw [this]; simp [sgn]

theorem neg_eight {m k : Nat} (hk : k % 2 = 1) (hm : m % 4 = 1) : neg (8 * m) k = (if k % 8 = 1 ∨ k % 8 = 3 then 1 else -1) * G k m := by
  rw [neg_eq hk, show 8 * m = 4 * (2 * m) from by omega, G_four hk, G_mul _ _ _ hk, G_recip (a := m) (n := k) hk (by omega), sgn_half hk, G_two hk]
  have : sgn (m / 2 * (k / 2)) = sgn 0 := by
    apply sgn_mod
    rw [Nat.mul_mod, show m / 2 % 2 = 0 from by omega]; simp
  rw [this]
  have h1 : sgn 0 = 1 := by simp [sgn]
  rw [h1, Int.one_mul, ← Int.mul_assoc]
  congr 1
  split <;> split <;> split <;> omega

theorem neg_eight' {m k : Nat} (hk : k % 2 = 1) (hm : m % 4 = 3) : neg (8 * m) k = (if k % 8 = 1 ∨ k % 8 = 7 then 1 else -1) * G k m := by
  rw [neg_eq hk, show 8 * m = 4 * (2 * m) from by omega, G_four hk, G_mul _ _ _ hk, G_recip (a := m) (n := k) hk (by omega), sgn_half hk, G_two hk]
  have : sgn (m / 2 * (k / 2)) = sgn (k / 2) := by
    apply sgn_mod
    rw [Nat.mul_mod, show m / 2 % 2 = 1 from by omega, Nat.one_mul, Nat.mod_mod]
  rw [this, sgn_half hk, ← Int.mul_assoc, ← Int.mul_assoc]
  congr 1
  split <;> split <;> rfl

/-- Jacobi's flip. -/
theorem G_flip {a n : Nat} (ha : a % 2 = 1) (hn : n % 2 = 1) : G a n = (if a % 4 = 3 ∧ n % 4 = 3 then -1 else 1) * G (n % a) a := by
  rw [G_recip hn ha, G_mod]
  congr 1
  unfold sgn
  have e : a / 2 * (n / 2) % 2 = (a / 2 % 2) * (n / 2 % 2) % 2 := Nat.mul_mod _ _ _
  rcases Nat.mod_two_eq_zero_or_one (a / 2) with h | h <;> rcases Nat.mod_two_eq_zero_or_one (n / 2) with h' | h' <;>
    rw [h, h'] at e <;> (split <;> split <;> omega)

theorem G_zero {n : Nat} (hn : 1 < n) : G 0 n = 0 := by
  unfold G
  rw [if_neg (by rw [Nat.gcd_zero_left]; omega)]

end Go.Proofs.Ytppdaagiofcmkaa.Recip
