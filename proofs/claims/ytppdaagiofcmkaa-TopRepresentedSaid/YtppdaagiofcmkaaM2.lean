import Derived.Test.YtppdaagiofcmkaaM1
/- Jacobi's and Kronecker's symbols, greatest common divisors and primes, as the program computes them. -/
namespace Go.Proofs.Ytppdaagiofcmkaa.M
open Go.RowKit Go.Proofs.Ytppdaagiofcmkaa.Q Go.Proofs.YtppdaagiofcmkaaW.PrintWords Go.Proofs.YtppdaagiofcmkaaW.PrintLast Go.Proofs.YtppdaagiofcmkaaW.PrintMore
open Go.Proofs.Ytppdaagiofcmkaa.Recip (G neg)
open Go.Proofs.Ytppdaagiofcmkaa.Chk (Nosq T Prime)

theorem tmod_nat (a b : Nat) : Int.tmod (a : Int) (b : Int) = ((a % b : Nat) : Int) := by rw [Int.tmod_eq_emod_of_nonneg (by omega)]; rfl
theorem tdiv_nat (a b : Nat) : Int.tdiv (a : Int) (b : Int) = ((a / b : Nat) : Int) := (Int.ofNat_tdiv a b).symm

theorem G_range (a n : Nat) : -1 ≤ G a n ∧ G a n ≤ 1 := by rcases Recip.G_sq a n with h | h | h <;> rw [h] <;> omega

theorem jac_l0 (k : Nat) (x0 x1 x6 : Int) : residue_Jacobi.l0 (k + 1) x0 x1 x6 = if x0 > 0 then residue_Jacobi.l1 k x0 x1 x6 else if x1 > 1 then some (0, 0) else some (x6, 0) := by simp only [residue_Jacobi.l0]
theorem jac_l1 (k : Nat) (x0 x1 x6 : Int) : residue_Jacobi.l1 (k + 1) x0 x1 x6 = if Int.tmod x0 2 = 0 then (if Int.tmod x1 8 = 3 then residue_Jacobi.l1 k (wrap64 (Int.tdiv x0 2)) x1 (wrap64 (-x6)) else if Int.tmod x1 8 = 5 then residue_Jacobi.l1 k (wrap64 (Int.tdiv x0 2)) x1 (wrap64 (-x6)) else residue_Jacobi.l1 k (wrap64 (Int.tdiv x0 2)) x1 x6)
    else if Int.tmod x0 4 = 3 then (if Int.tmod x1 4 = 3 then (if x0 = 0 then none else residue_Jacobi.l0 k (Int.tmod x1 x0) x0 (wrap64 (-x6))) else if x0 = 0 then none else residue_Jacobi.l0 k (Int.tmod x1 x0) x0 x6) else if x0 = 0 then none else residue_Jacobi.l0 k (Int.tmod x1 x0) x0 x6 := by simp only [residue_Jacobi.l1]

theorem G_up {a n : Nat} {s : Int} (hn : n % 2 = 1) (he : a % 2 = 0) (h : n % 8 = 3 ∨ n % 8 = 5) : s * G a n = -s * G (a / 2) n := by
  rw [Recip.G_even hn he, Recip.G_two hn, if_neg (by omega)]
  simp [Int.neg_mul, Int.mul_neg]
theorem G_up' {a n : Nat} {s : Int} (hn : n % 2 = 1) (he : a % 2 = 0) (h : ¬ n % 8 = 3) (h' : ¬ n % 8 = 5) : s * G a n = s * G (a / 2) n := by
  rw [Recip.G_even hn he, Recip.G_two hn, if_pos (by omega), Int.one_mul]
theorem G_fl {a n : Nat} {s : Int} (hn : n % 2 = 1) (_he : ¬ a % 2 = 0) (h : a % 4 = 3) (h' : n % 4 = 3) : s * G a n = -s * G (n % a) a := by
  rw [Recip.G_flip (by omega) hn, if_pos ⟨h, h'⟩]
  simp [Int.neg_mul, Int.mul_neg]
theorem G_fl' {a n : Nat} {s : Int} (hn : n % 2 = 1) (he : ¬ a % 2 = 0) (h : ¬ (a % 4 = 3 ∧ n % 4 = 3)) : s * G a n = s * G (n % a) a := by
  rw [Recip.G_flip (by omega) hn, if_neg h, Int.one_mul]

theorem ed_nat (a : Nat) (h : a ≤ 10000) : wrap64 (Int.tdiv (a : Int) 2) = ((a / 2 : Nat) : Int) := by
  rw [show Int.tdiv (a : Int) 2 = ((a / 2 : Nat) : Int) from tdiv_nat a 2]; exact w32k (by omega) (by omega)
theorem es_neg (s : Int) (h : s = 1 ∨ s = -1) : wrap64 (-s) = -s := w32k (by omega) (by omega)

theorem jac_loop (M : Nat) : ∀ (a n : Nat) (s : Int), a ≤ M → n % 2 = 1 → n ≤ 10000 → a ≤ 10000 → (s = 1 ∨ s = -1) →
    Ev (fun k => residue_Jacobi.l0 k a n s) (s * G a n, 0) ∧ (0 < a → Ev (fun k => residue_Jacobi.l1 k a n s) (s * G a n, 0)) := by
  induction M with
  | zero =>
    intro a n s ha hn hnb hab hs
    have : a = 0 := by omega
    subst this
    refine ⟨?_, fun h => by omega⟩
    refine Ev.step (f := fun _ => some (s * G 0 n, 0)) (fun k => ?_) (Ev.now _)
    rw [jac_l0, if_neg (by omega)]
    by_cases h1 : 1 < n
    · rw [if_pos (by omega), Recip.G_zero h1, Int.mul_zero]
    · have : n = 1 := by omega
      subst this
      rw [if_neg (by omega), Recip.G_one_right, Int.mul_one]
  | succ M ih =>
    intro a n s ha hn hnb hab hs
    by_cases h0 : a = 0
    · subst h0
      exact ih 0 n s (Nat.zero_le _) hn hnb (by omega) hs
    have main : Ev (fun k => residue_Jacobi.l1 k a n s) (s * G a n, 0) := by
      have e2 : Int.tmod (a : Int) 2 = ((a % 2 : Nat) : Int) := tmod_nat a 2
      have e4 : Int.tmod (a : Int) 4 = ((a % 4 : Nat) : Int) := tmod_nat a 4
      have e8 : Int.tmod (n : Int) 8 = ((n % 8 : Nat) : Int) := tmod_nat n 8
      have e4' : Int.tmod (n : Int) 4 = ((n % 4 : Nat) : Int) := tmod_nat n 4
      have hs' : -s = 1 ∨ -s = -1 := by omega
      by_cases he : a % 2 = 0
      · have a1 : a / 2 ≤ M := by omega
        have a2 : a / 2 ≤ 10000 := by omega
        have a3 : 0 < a / 2 := by omega
        have i1 := (ih (a / 2) n (-s) a1 hn hnb a2 hs').2 a3
        have i2 := (ih (a / 2) n s a1 hn hnb a2 hs).2 a3
        clear ih
        by_cases h3 : n % 8 = 3
        · rw [G_up hn he (.inl h3)]
          refine Ev.step (fun k => ?_) i1
          rw [jac_l1, e2, e8, if_pos (by omega), if_pos (by omega), ed_nat a hab, es_neg s hs]
        · by_cases h5 : n % 8 = 5
          · rw [G_up hn he (.inr h5)]
            refine Ev.step (fun k => ?_) i1
            rw [jac_l1, e2, e8, if_pos (by omega), if_neg (by omega), if_pos (by omega), ed_nat a hab, es_neg s hs]
          · rw [G_up' hn he h3 h5]
            refine Ev.step (fun k => ?_) i2
            rw [jac_l1, e2, e8, if_pos (by omega), if_neg (by omega), if_neg (by omega), ed_nat a hab]
      · have em : Int.tmod (n : Int) (a : Int) = ((n % a : Nat) : Int) := tmod_nat n a
        have hlt : n % a < a := Nat.mod_lt _ (by omega)
        have i1 := (ih (n % a) a (-s) (by omega) (by omega) hab (by omega) hs').1
        have i2 := (ih (n % a) a s (by omega) (by omega) hab (by omega) hs).1
        clear ih hlt
        by_cases h3 : a % 4 = 3
        · by_cases h3' : n % 4 = 3
          · rw [G_fl hn he h3 h3']
            refine Ev.step (fun k => ?_) i1
            rw [jac_l1, e2, e4, e4', if_neg (by omega), if_pos (by omega), if_pos (by omega), if_neg (by omega), em, es_neg s hs]
          · rw [G_fl' hn he (fun h => h3' h.2)]
            refine Ev.step (fun k => ?_) i2
            rw [jac_l1, e2, e4, e4', if_neg (by omega), if_pos (by omega), if_neg (by omega), if_neg (by omega), em]
        · rw [G_fl' hn he (fun h => h3 h.1)]
          refine Ev.step (fun k => ?_) i2
          rw [jac_l1, e2, e4, if_neg (by omega), if_neg (by omega), if_neg (by omega), em]
    refine ⟨Ev.step (fun k => ?_) main, fun _ => main⟩
    rw [jac_l0, if_pos (show (a : Int) > 0 by omega)]

/-- The residue of -D, as the symbol has it. -/
theorem neg_res {D n : Nat} (hn : 0 < n) : G ((n - D % n) % n) n = neg D n := by
  rw [← Recip.G_mod]
  unfold neg
  rw [← Recip.G_mod ((n - 1) * D)]
  congr 1
  rw [Nat.mod_mod]
  have h1 : (n - 1) * D + D = n * D := by
    have : (n - 1) * D + D = (n - 1 + 1) * D := by rw [Nat.add_mul, Nat.one_mul]
    rw [this]; congr 1; omega
  have h2 : ((n - 1) * D % n + D % n) % n = 0 := by rw [← Nat.add_mod, h1, Nat.mul_mod_right]
  have h3 := Nat.mod_lt ((n - 1) * D) hn
  have h4 := Nat.mod_lt D hn
  by_cases h5 : D % n = 0
  · rw [h5, Nat.add_zero, Nat.mod_mod] at h2
    rw [h5, h2, Nat.sub_zero, Nat.mod_self]
  · rw [Nat.mod_eq_of_lt (show n - D % n < n from by omega)]
    obtain ⟨c, hc⟩ := Nat.dvd_of_mod_eq_zero h2
    have : c = 1 := by
      rcases c with _ | _ | c
      · omega
      · rfl
      · have : n * (c + 1 + 1) = n * c + n + n := by rw [Nat.mul_add, Nat.mul_add]; omega
        omega
    subst this
    omega

theorem jac_f (D n : Nat) (hn : n % 2 = 1) (hnb : n ≤ 10000) : Ev (fun k => residue_Jacobi.f k (-(D : Int)) n) (neg D n, 0) := by
  have hpos : 0 < n := by omega
  have hbad : residue_bad.f [(n : Int)] = some false := by
    unfold residue_bad.f badp
    rw [List.any_cons, List.any_nil, decide_eq_false (by omega), decide_eq_false (by omega)]; rfl
  have hlt := Nat.mod_lt D hpos
  have hmod : residue_mod.f (-(D : Int)) (n : Int) = some (((n - D % n) % n : Nat) : Int) := by
    unfold residue_mod.f
    rw [if_neg (by omega), Int.neg_tmod, tmod_nat]
    by_cases h0 : D % n = 0
    · rw [h0, Nat.sub_zero, Nat.mod_self, if_neg (by omega)]; rfl
    · rw [if_pos (by omega), Nat.mod_eq_of_lt (show n - D % n < n from by omega), w32k (by omega) (by omega)]
      congr 1; omega
  have hl := (jac_loop ((n - D % n) % n) ((n - D % n) % n) n 1 (Nat.le_refl _) hn (by omega) (by have := Nat.mod_lt (n - D % n) hpos; omega) (.inl rfl)).1
  rw [Int.one_mul, neg_res hpos] at hl
  have h0 : Ev (fun k => residue_Jacobi.j0 k (-(D : Int)) n false) (neg D n, 0) := by
    refine Ev.step (fun k => ?_) hl
    simp only [residue_Jacobi.j0, hmod, Option.bind_some]
    rw [if_neg (by simp)]
  refine h0.congr (fun k => ?_)
  unfold residue_Jacobi.f
  rw [hbad, Option.bind_some, if_neg (by simp), show Int.tmod (n : Int) 2 = ((n % 2 : Nat) : Int) from tmod_nat n 2, hn]
  rfl

theorem sym_l0 (k : Nat) (x0 x1 x5 : Int) : quadratic_symbol.l0 (k + 1) x0 x1 x5 = if Int.tmod x1 2 = 0 then (if Go.bits .and .i64 x0 7 = 1 then quadratic_symbol.l0 k x0 (wrap64 (Int.tdiv x1 2)) x5 else if Go.bits .and .i64 x0 7 = 5 then quadratic_symbol.l0 k x0 (wrap64 (Int.tdiv x1 2)) (wrap64 (-x5)) else some 0) else (residue_Jacobi.f k x0 x1).bind fun bt144 => some (wrap64 (x5 * bt144.1)) := by simp only [quadratic_symbol.l0]

/-- How the character goes with the factor 2, and at odd numbers. -/
theorem T_even {D k : Nat} (hk : k % 2 = 0) (hD : Chk.Nosq D ∧ D % 4 = 3 ∨ D % 4 = 0) : T D k = if D % 8 = 7 then T D (k / 2) else if D % 8 = 3 then -T D (k / 2) else 0 := by
  unfold T
  rcases hD with ⟨_, h3⟩ | h0
  · rw [if_pos h3, if_pos h3, Recip.G_even (by omega) hk, Recip.two_odd h3]
    split
    · simp
    · rw [if_pos (by omega)]; simp
  · rw [if_neg (by omega), if_pos hk, if_neg (by omega), if_neg (by omega)]

theorem T_odd {D k : Nat} (hk : k % 2 = 1) (hS : Shape D) : T D k = neg D k := by
  unfold T
  rcases hS with ⟨h3, _⟩ | ⟨h0, hn, hne⟩
  · rw [if_pos h3, Recip.neg_odd hk h3]
  · have h4 : ¬ D / 4 % 4 = 0 := fun h => hn 2 (by omega) (Nat.dvd_of_mod_eq_zero h)
    rw [if_neg (by omega), if_neg (by omega)]
    by_cases c1 : D % 16 = 4
    · rw [if_pos c1]
      have e : D = 4 * (D / 4) := by omega
      conv => rhs; rw [e]
      rw [Recip.neg_four hk (by omega)]
    · rw [if_neg c1]
      have e : D = 8 * (D / 8) := by omega
      by_cases c2 : D % 32 = 8
      · rw [if_pos c2]
        conv => rhs; rw [e]
        rw [Recip.neg_eight hk (by omega)]
      · rw [if_neg c2]
        conv => rhs; rw [e]
        rw [Recip.neg_eight' hk (by omega)]

theorem T_range (D k : Nat) : T D k = 0 ∨ T D k = 1 ∨ T D k = -1 := by
  have g := fun a n => Recip.G_sq a n
  unfold T
  repeat' split
  all_goals first
    | exact g _ _
    | exact .inl rfl
    | (rcases g k (D / 4) with h | h | h <;> rw [h] <;> simp)
    | (rcases g k (D / 8) with h | h | h <;> rw [h] <;> simp)

theorem sym_loop {D : Nat} (hS : Shape D) (M : Nat) : ∀ (n : Nat) (s : Int), n ≤ M → 0 < n → n ≤ 10000 → (s = 1 ∨ s = -1) →
    Ev (fun k => quadratic_symbol.l0 k (-(D : Int)) n s) (s * T D n) := by
  have hsh : Chk.Nosq D ∧ D % 4 = 3 ∨ D % 4 = 0 := by
    rcases hS with ⟨h, h'⟩ | ⟨h, _⟩
    · exact .inl ⟨h', h⟩
    · exact .inr h
  induction M with
  | zero => intro n s h1 h2; omega
  | succ M ih =>
    intro n s hM hn hnb hs
    have e2 : Int.tmod (n : Int) 2 = ((n % 2 : Nat) : Int) := tmod_nat n 2
    by_cases he : n % 2 = 0
    · have hT := T_even he hsh
      by_cases c7 : D % 8 = 7
      · rw [if_pos c7] at hT
        rw [hT]
        refine Ev.step (fun k => ?_) (ih (n / 2) s (by omega) (by omega) (by omega) hs)
        rw [sym_l0, e2, and7, if_pos (by omega), if_pos (by omega), ed_nat n hnb]
      · rw [if_neg c7] at hT
        by_cases c3 : D % 8 = 3
        · rw [if_pos c3] at hT
          rw [hT, show s * -T D (n / 2) = -s * T D (n / 2) from by simp [Int.neg_mul, Int.mul_neg]]
          refine Ev.step (fun k => ?_) (ih (n / 2) (-s) (by omega) (by omega) (by omega) (by omega))
          rw [sym_l0, e2, and7, if_pos (by omega), if_neg (by omega), if_pos (by omega), ed_nat n hnb, es_neg s hs]
        · rw [if_neg c3] at hT
          rw [hT, Int.mul_zero]
          refine Ev.step (f := fun _ => some 0) (fun k => ?_) (Ev.now _)
          rw [sym_l0, e2, and7, if_pos (by omega), if_neg (by omega), if_neg (by omega)]
    · have hT := T_odd (by omega) hS (k := n)
      refine Ev.step (fun k => ?_) (Ev.bind (jac_f D n (by omega) hnb) (r := s * T D n) (f := fun _ bt => some (wrap64 (s * bt.1))) ?_)
      · rw [sym_l0, e2, if_neg (by omega)]
      · refine (Ev.now _).congr (fun k => ?_)
        rw [hT, w32k]
        · rw [← hT]; rcases T_range D n with h | h | h <;> rw [h] <;> omega
        · rw [← hT]; rcases T_range D n with h | h | h <;> rw [h] <;> omega

theorem bounded_two (x y : Int) (hx : -10000 ≤ x ∧ x ≤ 10000) (hy : -10000 ≤ y ∧ y ≤ 10000) : Ev (fun k => quadratic_bounded.f k [x, y]) 0 := by
  refine Ev.of (fun k => quadratic_bounded.mono _ k) (k := 3) ?_
  have w1 : wrap64 (0 + 1) = 1 := by decide +kernel
  have w2 : wrap64 (1 + 1) = 2 := by decide +kernel
  have r0 : rd [x, y] 0 = x := rfl
  have r1 : rd [x, y] 1 = y := rfl
  have l2 : (([x, y] : List Int).length : Int) = 2 := rfl
  simp only [quadratic_bounded.f, quadratic_bounded.l0]
  rw [w1, w2, r0, r1, l2]
  rw [if_pos (by omega), if_pos (by omega), if_pos (by omega), if_neg (by omega), if_neg (by omega), if_pos (by omega), if_pos (by omega), if_pos (by omega), if_neg (by omega), if_neg (by omega), if_neg (by omega)]

theorem bounded_one (x : Int) (hx : -10000 ≤ x ∧ x ≤ 10000) : Ev (fun k => quadratic_bounded.f k [x]) 0 := by
  refine Ev.of (fun k => quadratic_bounded.mono _ k) (k := 2) ?_
  have w1 : wrap64 (0 + 1) = 1 := by decide +kernel
  have r0 : rd [x] 0 = x := rfl
  have l1 : (([x] : List Int).length : Int) = 1 := rfl
  simp only [quadratic_bounded.f, quadratic_bounded.l0]
  rw [w1, r0, l1]
  rw [if_pos (by omega), if_pos (by omega), if_pos (by omega), if_neg (by omega), if_neg (by omega), if_neg (by omega)]

/-- Kronecker's symbol, as the program has it. -/
theorem kron {D : Nat} (hS : Shape D) (h3 : 3 ≤ D) (hD : D ≤ 10000) (n : Nat) (hn : 0 < n) (hnb : n ≤ 10000) : Ev (fun k => quadratic_Kronecker.f k (-(D : Int)) n) (T D n, 0) := by
  have hb := bounded_two (-(D : Int)) (n : Int) (by omega) (by omega)
  have hs : Ev (fun k => quadratic_symbol.f k (-(D : Int)) n) (T D n) := by
    have h1 := sym_loop hS n n 1 (Nat.le_refl _) hn hnb (.inl rfl)
    rw [Int.one_mul] at h1
    have h2 : Ev (fun k => quadratic_symbol.j0 k (-(D : Int)) n 1) (T D n) := Ev.step (fun k => by simp only [quadratic_symbol.j0]) h1
    refine h2.congr (fun k => ?_)
    unfold quadratic_symbol.f
    rw [if_neg (by omega), if_neg (by omega)]
  have hj : Ev (fun k => quadratic_Kronecker.j0 k (-(D : Int)) n 0 false) (T D n, 0) := by
    refine Ev.step (f := fun k => (quadratic_symbol.f k (-(D : Int)) n).bind fun t => some (t, 0)) (fun k => ?_) (Ev.bind hs (Ev.now _))
    simp only [quadratic_Kronecker.j0]
    rw [if_neg (by simp), if_pos trivial]
  refine (Ev.bind hb ?_ : Ev (fun k => (quadratic_bounded.f k [-(D : Int), (n : Int)]).bind _) _)
  refine hj.congr (fun k => ?_)
  simp only [if_true, quadratic_mod4.f, and3, Option.bind_some]
  have : ¬ (-(D : Int)) % 4 > 1 := by
    rcases hS with ⟨h, _⟩ | ⟨h, _⟩ <;> omega
  rw [decide_eq_false this]

/-! greatest common divisors -/
theorem gcd_loop (M : Nat) : ∀ (a b : Int), b.natAbs ≤ M → a.natAbs ≤ 1000000 → b.natAbs ≤ 1000000 → Ev (fun k => quadratic_gcd.l0 k a b) (Nat.gcd a.natAbs b.natAbs : Int) := by
  induction M with
  | zero =>
    intro a b hb ha _
    have : b = 0 := by omega
    subst this
    refine Ev.step (f := fun _ => some (Nat.gcd a.natAbs (0 : Int).natAbs : Int)) (fun k => ?_) (Ev.now _)
    simp only [quadratic_gcd.l0]
    rw [if_pos trivial, mx_abs a (by omega) (by omega)]
    simp
  | succ M ih =>
    intro a b hb ha hb2
    by_cases h0 : b = 0
    · subst h0; exact ih a 0 (by simp) ha (by simp)
    · have hlt : (a.tmod b).natAbs < b.natAbs := by
        rw [Int.natAbs_tmod]; exact Nat.mod_lt _ (by omega)
      have := ih b (a.tmod b) (by omega) hb2 (by omega)
      rw [Int.natAbs_tmod, show Nat.gcd b.natAbs (a.natAbs % b.natAbs) = Nat.gcd a.natAbs b.natAbs from by rw [Nat.gcd_comm a.natAbs, Nat.gcd_rec b.natAbs a.natAbs, Nat.gcd_comm]] at this
      refine Ev.step (fun k => ?_) this
      simp only [quadratic_gcd.l0]
      rw [if_neg h0]

theorem gcd_f (a b : Int) (ha : a.natAbs ≤ 1000000) (hb : b.natAbs ≤ 1000000) : Ev (fun k => quadratic_gcd.f k a b) (Nat.gcd a.natAbs b.natAbs : Int) := gcd_loop _ a b (Nat.le_refl _) ha hb

/-! primes -/
theorem prime_loop (n : Nat) (hn : n ≤ 10000) (M : Nat) : ∀ (q : Nat), 2 ≤ q → q ≤ 101 → 101 - q < M → (∀ j, 2 ≤ j → j < q → ¬ j ∣ n) →
    ∃ b : Bool, Ev (fun k => galoisref04_IsPrime.l0 k n q) b ∧ (b = true ↔ Prime n) := by
  induction M with
  | zero => intro q _ _ h; omega
  | succ M ih =>
    intro q h2 hq hM hno
    have hqq : q * q ≤ 101 * 101 := Nat.mul_le_mul hq hq
    have ew : wrap64 ((q : Int) * q) = ((q * q : Nat) : Int) := by rw [← Int.natCast_mul]; exact w32k (by omega) (by omega)
    by_cases hle : q * q ≤ n
    · have hq100 := le100 hle hn
      have hqn : q < n := by
        have := Nat.mul_le_mul_right q h2
        omega
      by_cases hd : q ∣ n
      · refine ⟨false, Ev.step (f := fun _ => some false) (fun k => ?_) (Ev.now _), ?_⟩
        · simp only [galoisref04_IsPrime.l0]
          rw [ew, if_pos (by omega), if_neg (by omega), tmod_nat, if_pos (by rw [Nat.mod_eq_zero_of_dvd hd]; rfl)]
        · constructor
          · intro h; simp at h
          · intro h; have := h.2 q h2 hd; omega
      · obtain ⟨b, hb, hiff⟩ := ih (q + 1) (by omega) (by omega) (by omega) (fun j hj hjq => by
          by_cases he : j = q
          · subst he; exact hd
          · exact hno j hj (by omega))
        refine ⟨b, Ev.step (fun k => ?_) hb, hiff⟩
        simp only [galoisref04_IsPrime.l0]
        rw [ew, if_pos (by omega), if_neg (by omega), tmod_nat, if_neg (fun h => hd (Nat.dvd_of_mod_eq_zero (by omega)))]
        rw [show wrap64 ((q : Int) + 1) = ((q + 1 : Nat) : Int) from w32k (by omega) (by omega)]
    · refine ⟨decide ((n : Int) > 1), Ev.step (f := fun _ => some (decide ((n : Int) > 1))) (fun k => ?_) (Ev.now _), ?_⟩
      · simp only [galoisref04_IsPrime.l0]
        rw [ew, if_neg (by omega)]
      · rw [decide_eq_true_iff]
        constructor
        · intro h
          refine Chk.prime_of (by omega) (fun i hi hii hd => ?_)
          have : i < q := by
            apply Classical.byContradiction
            intro hc
            have := Nat.mul_le_mul (show q ≤ i from by omega) (show q ≤ i from by omega)
            omega
          exact hno i hi this hd
        · intro h; have := h.1; omega

theorem prime_f (n : Nat) (hn : n ≤ 10000) : ∃ b : Bool, Ev (fun k => galoisref04_IsPrime.f k n) b ∧ (b = true ↔ Prime n) :=
  prime_loop n hn 200 2 (by omega) (by omega) (by omega) (fun j h1 h2 => by omega)

end Go.Proofs.Ytppdaagiofcmkaa.M
