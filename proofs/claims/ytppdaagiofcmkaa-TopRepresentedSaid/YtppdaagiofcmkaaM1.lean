import Derived.Test.YtppdaagiofcmkaaQx6
import Derived.Test.YtppdaagiofcmkaaChk3
/- What the functions of the program come to: squarefree parts, fundamental discriminants, symbols, greatest common divisors, primes. -/
namespace Go.Proofs.Ytppdaagiofcmkaa.M
open Go.RowKit Go.Proofs.Ytppdaagiofcmkaa.Q Go.Proofs.YtppdaagiofcmkaaW.PrintWords Go.Proofs.YtppdaagiofcmkaaW.PrintLast Go.Proofs.YtppdaagiofcmkaaW.PrintMore
open Go.Proofs.Ytppdaagiofcmkaa.Recip (G)
open Go.Proofs.Ytppdaagiofcmkaa.Chk (Nosq T Prime)

theorem w64 {x : Int} (h1 : -9000000000000000000 ≤ x) (h2 : x ≤ 9000000000000000000) : wrap64 x = x := by unfold wrap64; omega
theorem w32k {x : Int} (h1 : -1000000000 ≤ x) (h2 : x ≤ 1000000000) : wrap64 x = x := w64 (by omega) (by omega)

theorem and3 (a : Int) : Go.bits .and .i64 a 3 = a % 4 := by
  have h : (BitVec.ofInt 64 a &&& BitVec.ofInt 64 3).toNat = (a % 4).toNat := by
    rw [BitVec.toNat_and, BitVec.toNat_ofInt, show (BitVec.ofInt 64 3).toNat = 2 ^ 2 - 1 from rfl, Nat.and_two_pow_sub_one_eq_mod]
    omega
  show IntKind.i64.wrap ((BitVec.ofInt 64 a &&& BitVec.ofInt 64 3).toNat : Int) = _
  rw [h, IntKind.wrap_i64]; omega
theorem and7 (a : Int) : Go.bits .and .i64 a 7 = a % 8 := by
  have h : (BitVec.ofInt 64 a &&& BitVec.ofInt 64 7).toNat = (a % 8).toNat := by
    rw [BitVec.toNat_and, BitVec.toNat_ofInt, show (BitVec.ofInt 64 7).toNat = 2 ^ 3 - 1 from rfl, Nat.and_two_pow_sub_one_eq_mod]
    omega
  show IntKind.i64.wrap ((BitVec.ofInt 64 a &&& BitVec.ofInt 64 7).toNat : Int) = _
  rw [h, IntKind.wrap_i64]; omega

theorem mx_abs (a : Int) (h1 : -1000000000 ≤ a) (h2 : a ≤ 1000000000) : mx a (wrap64 (-a)) = (a.natAbs : Int) := by
  rw [w32k (by omega) (by omega)]
  unfold mx
  split <;> omega

/-! squarefree parts -/
theorem sq_l0 (k : Nat) (x4 x5 x6 : Int) : galoisref50_SquarefreePart.l0 (k + 1) x4 x5 x6 = (galoisref50_abs.f x4).bind fun t => if wrap64 (x6 * x6) ≤ t then galoisref50_SquarefreePart.l1 k x4 x5 x6 else some (x4, x5) := by
  simp only [galoisref50_SquarefreePart.l0]
theorem sq_l1 (k : Nat) (x4 x5 x6 : Int) : galoisref50_SquarefreePart.l1 (k + 1) x4 x5 x6 = if wrap64 (x6 * x6) = 0 then none else if Int.tmod x4 (wrap64 (x6 * x6)) = 0 then galoisref50_SquarefreePart.l1 k (wrap64 (Int.tdiv x4 (wrap64 (x6 * x6)))) (wrap64 (x5 * x6)) x6 else galoisref50_SquarefreePart.l0 k x4 x5 (wrap64 (x6 + 1)) := by
  simp only [galoisref50_SquarefreePart.l1]

theorem le100 {q n : Nat} (h : q * q ≤ n) (hn : n ≤ 10000) : q ≤ 100 := by
  apply Classical.byContradiction
  intro hc
  have := Nat.mul_le_mul (show 101 ≤ q from by omega) (show 101 ≤ q from by omega)
  omega

/-- What the loops at (n, s, q) say of their result. -/
def SqSays (n : Int) (s q : Nat) (m : Int) (t : Nat) : Prop := t = 1 → s = 1 ∧ m = n ∧ ∀ j, q ≤ j → j * j ≤ n.natAbs → ¬ j * j ∣ n.natAbs

theorem sq_tot (M : Nat) : ∀ (n : Int) (s q : Nat), n ≠ 0 → n.natAbs * (s * s) ≤ 10000 → 1 ≤ s → 2 ≤ q →
    (2 * (n.natAbs + (200 - q)) + 1 < M → q ≤ 101 → ∃ (m : Int) (t : Nat), Ev (fun k => galoisref50_SquarefreePart.l0 k n s q) (m, (t : Int)) ∧ SqSays n s q m t) ∧
    (2 * (n.natAbs + (200 - q)) < M → q ≤ 100 → ∃ (m : Int) (t : Nat), Ev (fun k => galoisref50_SquarefreePart.l1 k n s q) (m, (t : Int)) ∧ SqSays n s q m t) := by
  induction M with
  | zero =>
    intro n s q h0 hs h1 h2
    exact ⟨fun h => by omega, fun h => by omega⟩
  | succ M ih =>
    intro n s q h0 hs h1 h2
    have hpos : 0 < n.natAbs := by omega
    have hs1 : 1 ≤ s * s := Nat.mul_pos h1 h1
    have hn : n.natAbs ≤ 10000 := Nat.le_trans (Nat.le_mul_of_pos_right _ hs1) hs
    have hs2 : s ≤ 100 := le100 (n := s * s) (Nat.le_refl _) (Nat.le_trans (Nat.le_mul_of_pos_left _ hpos) hs)
    have hq4 : 2 * 2 ≤ q * q := Nat.mul_le_mul h2 h2
    have ew : q ≤ 101 → wrap64 ((q : Int) * q) = ((q * q : Nat) : Int) := by
      intro h3
      have hqq : q * q ≤ 101 * 101 := Nat.mul_le_mul h3 h3
      rw [← Int.natCast_mul]; exact w32k (by omega) (by omega)
    refine ⟨?_, ?_⟩
    · intro hM h3
      by_cases hle : q * q ≤ n.natAbs
      · obtain ⟨m, t, hev, ht⟩ := (ih n s q h0 hs h1 h2).2 (by omega) (le100 hle hn)
        refine ⟨m, t, Ev.step (fun k => ?_) hev, ht⟩
        rw [sq_l0, ew h3]
        unfold galoisref50_abs.f
        rw [mx_abs n (by omega) (by omega), Option.bind_some, if_pos (by omega)]
      · refine ⟨n, s, Ev.step (f := fun _ => some (n, (s : Int))) (fun k => ?_) (Ev.now _), fun h => ⟨h, rfl, fun j hj hjj => ?_⟩⟩
        · rw [sq_l0, ew h3]
          unfold galoisref50_abs.f
          rw [mx_abs n (by omega) (by omega), Option.bind_some, if_neg (by omega)]
        · have := Nat.mul_le_mul hj hj
          omega
    · intro hM h3
      have hqq : q * q ≤ 100 * 100 := Nat.mul_le_mul h3 h3
      by_cases hd : q * q ∣ n.natAbs
      · -- the square is divided out
        have hdI : ((q * q : Nat) : Int) ∣ n := Int.ofNat_dvd_left.mpr hd
        have hmul := Int.tdiv_mul_cancel hdI
        have hne : n.tdiv ((q * q : Nat) : Int) ≠ 0 := by
          intro h
          rw [h] at hmul; omega
        have hab : (n.tdiv ((q * q : Nat) : Int)).natAbs = n.natAbs / (q * q) := by rw [Int.natAbs_tdiv]; rfl
        have hlt : n.natAbs / (q * q) < n.natAbs := Nat.div_lt_self hpos (by omega)
        have hbound : (n.tdiv ((q * q : Nat) : Int)).natAbs * ((s * q) * (s * q)) ≤ 10000 := by
          rw [hab, show s * q * (s * q) = (q * q) * (s * s) from by rw [Nat.mul_mul_mul_comm, Nat.mul_comm], ← Nat.mul_assoc, Nat.div_mul_cancel hd]
          exact hs
        have hsq : s * q ≤ 100 * 100 := Nat.mul_le_mul hs2 h3
        obtain ⟨m, t, hev, ht⟩ := (ih (n.tdiv ((q * q : Nat) : Int)) (s * q) q hne hbound (Nat.mul_pos h1 (by omega)) h2).2 (by rw [hab]; omega) h3
        refine ⟨m, t, Ev.step (fun k => ?_) hev, fun h => ?_⟩
        · rw [sq_l1, ew (by omega), if_neg (by omega), if_pos (Int.tmod_eq_zero_of_dvd hdI), w32k (by omega) (by omega)]
          rw [show wrap64 ((s : Int) * q) = ((s * q : Nat) : Int) from by rw [← Int.natCast_mul]; exact w32k (by omega) (by omega)]
        · have := (ht h).1
          have h4 : 1 * 2 ≤ s * q := Nat.mul_le_mul h1 h2
          omega
      · obtain ⟨m, t, hev, ht⟩ := (ih n s (q + 1) h0 hs h1 (by omega)).1 (by omega) (by omega)
        refine ⟨m, t, Ev.step (fun k => ?_) hev, fun h => ?_⟩
        · rw [sq_l1, ew (by omega), if_neg (by omega), if_neg (fun h => hd (Int.ofNat_dvd_left.mp (Int.dvd_of_tmod_eq_zero h)))]
          rw [show wrap64 ((q : Int) + 1) = ((q + 1 : Nat) : Int) from w32k (by omega) (by omega)]
        · obtain ⟨e1, e2, e3⟩ := ht h
          refine ⟨e1, e2, fun j hj hjj => ?_⟩
          by_cases he : j = q
          · subst he; exact hd
          · exact e3 j (by omega) hjj

/-- SquarefreePart of a small number. -/
theorem sq_f (n : Int) (h0 : n ≠ 0) (hn : n.natAbs ≤ 10000) : ∃ (m : Int) (t : Nat), Ev (fun k => galoisref50_SquarefreePart.f k n) (m, (t : Int)) ∧ (t = 1 → m = n ∧ Nosq n.natAbs) := by
  obtain ⟨m, t, hev, ht⟩ := (sq_tot (2 * (n.natAbs + 300)) n 1 2 h0 (by omega) (by omega) (by omega)).1 (by omega) (by omega)
  refine ⟨m, t, hev, fun h => ?_⟩
  obtain ⟨_, e2, e3⟩ := ht h
  refine ⟨e2, fun q hq hd => ?_⟩
  exact e3 q hq (Nat.le_of_dvd (by omega) hd) hd

/-- Both squarefree parts are one function. -/
theorem part_eq : ∀ (k : Nat) (x y z : Int), quadratic_part.l0 k x y z = galoisref50_SquarefreePart.l0 k x y z ∧ quadratic_part.l1 k x y z = galoisref50_SquarefreePart.l1 k x y z := by
  intro k
  induction k with
  | zero => intro x y z; exact ⟨by simp only [quadratic_part.l0, galoisref50_SquarefreePart.l0], by simp only [quadratic_part.l1, galoisref50_SquarefreePart.l1]⟩
  | succ k ih =>
    intro x y z
    constructor
    · rw [sq_l0]
      simp only [quadratic_part.l0, galoisref50_abs.f, Option.bind_some, (ih _ _ _).2]
    · rw [sq_l1]
      simp only [quadratic_part.l1, (ih _ _ _).1, (ih _ _ _).2]

/-! fundamental discriminants -/
theorem mod_f (a : Int) (b : Int) (hb : 0 < b) (hb2 : b ≤ 1000) : galoisref04_Mod.f a b = some (a % b) := by
  unfold galoisref04_Mod.f
  rw [if_neg (by omega)]
  congr 1
  have h1 : a.tmod b = a % b ∨ a.tmod b = a % b - b := by
    rw [Int.tmod_eq_emod]
    split
    · left; omega
    · right; rw [Int.natAbs_of_nonneg (by omega)]
  have h2 := Int.emod_nonneg a (show b ≠ 0 from by omega)
  have h3 := Int.emod_lt_of_pos a hb
  rcases h1 with h1 | h1
  · rw [h1, w32k (by omega) (by omega), Int.tmod_eq_emod_of_nonneg (by omega), Int.add_emod_right, Int.emod_emod_of_dvd _ (Int.dvd_refl b)]
  · rw [h1, w32k (by omega) (by omega), show a % b - b + b = a % b from by omega, Int.tmod_eq_emod_of_nonneg h2, Int.emod_emod_of_dvd _ (Int.dvd_refl b)]

/-- What a fundamental discriminant -D is. -/
def Shape (D : Nat) : Prop := (D % 4 = 3 ∧ Nosq D) ∨ (D % 4 = 0 ∧ Nosq (D / 4) ∧ D / 4 % 4 ≠ 3)

theorem fund (D : Nat) (h3 : 3 ≤ D) (hD : D ≤ 10000) : ∃ b : Bool, Ev (fun k => galoisref50_IsFundamental.f k (-(D : Int))) b ∧ Ev (fun k => quadratic_fundamental.f k (-(D : Int))) b ∧ (b = true → Shape D) := by
  obtain ⟨m, s, hs, hs1⟩ := sq_f (-(D : Int)) (by omega) (by omega)
  have hs' : Ev (fun k => quadratic_part.f k (-(D : Int))) (m, (s : Int)) := hs.congr (fun k => (part_eq k _ _ _).1)
  have m4 : galoisref04_Mod.f (-(D : Int)) 4 = some (-(D : Int) % 4) := mod_f _ _ (by omega) (by omega)
  have hl : galoisref50_Large.f (-(D : Int)) = some 0 := by
    unfold galoisref50_Large.f
    rw [if_neg (by omega), if_neg (by omega)]
  -- the beginnings of both functions
  have r0 : ∀ {b : Bool}, Ev (fun k => galoisref50_IsFundamental.j0 k (-(D : Int)) false) b → Ev (fun k => galoisref50_IsFundamental.f k (-(D : Int))) b := by
    intro b hb
    refine hb.congr (fun k => ?_)
    unfold galoisref50_IsFundamental.f
    rw [hl]
    simp only [Option.bind_some, if_true]
    rw [if_neg (by omega)]
    rw [show ((-(D : Int)) == 1) = false from beq_eq_false_iff_ne.mpr (by omega)]
  have p0 : ∀ {b : Bool}, Ev (fun k => quadratic_fundamental.j0 k (-(D : Int)) false) b → Ev (fun k => quadratic_fundamental.f k (-(D : Int))) b := by
    intro b hb
    refine hb.congr (fun k => ?_)
    unfold quadratic_fundamental.f
    rw [if_neg (by omega)]
    rw [show ((-(D : Int)) == 1) = false from beq_eq_false_iff_ne.mpr (by omega)]
  by_cases c3 : D % 4 = 3
  · have e1 : (-(D : Int)) % 4 = 1 := by omega
    refine ⟨(s : Int) == 1, r0 ?_, p0 ?_, ?_⟩
    · refine Ev.step (fun k => by simp only [galoisref50_IsFundamental.j0]; rfl) (Ev.bind hs ?_)
      refine (Ev.now _).congr (fun k => ?_)
      simp only [m4, Option.bind_some, e1, if_true]
    · refine Ev.step (fun k => by simp only [quadratic_fundamental.j0, quadratic_mod4.f, and3, Option.bind_some, e1, if_true]; rfl) (Ev.bind hs' ?_)
      exact Ev.now _
    · intro h
      have : s = 1 := by have := beq_iff_eq.mp h; omega
      have := (hs1 this).2
      exact .inl ⟨c3, by rwa [Int.natAbs_neg, Int.natAbs_natCast] at this⟩
  · have e1 : ¬ (-(D : Int)) % 4 = 1 := by omega
    by_cases c0 : D % 4 = 0
    · have e0 : (-(D : Int)) % 4 = 0 := by omega
      have ed : wrap64 (Int.tdiv (-(D : Int)) 4) = -((D / 4 : Nat) : Int) := by
        rw [Int.neg_tdiv, show (4 : Int) = ((4 : Nat) : Int) from rfl, ← Int.ofNat_tdiv]
        exact w32k (by omega) (by omega)
      obtain ⟨m2, s2, hs2, hs21⟩ := sq_f (-((D / 4 : Nat) : Int)) (by omega) (by omega)
      have hs2' : Ev (fun k => quadratic_part.f k (-((D / 4 : Nat) : Int))) (m2, (s2 : Int)) := hs2.congr (fun k => (part_eq k _ _ _).1)
      by_cases c1 : s2 = 1
      · obtain ⟨rfl, hn⟩ := hs21 c1
        subst c1
        rw [Int.natAbs_neg, Int.natAbs_natCast] at hn
        have m42 : galoisref04_Mod.f (-((D / 4 : Nat) : Int)) 4 = some (-((D / 4 : Nat) : Int) % 4) := mod_f _ _ (by omega) (by omega)
        have n0 : ¬ 4 ∣ D / 4 := hn 2 (by omega)
        refine ⟨-((D / 4 : Nat) : Int) % 4 != 1, r0 ?_, p0 ?_, ?_⟩
        · refine Ev.step (fun k => by simp only [galoisref50_IsFundamental.j0]; rfl) (Ev.bind hs ?_)
          refine Ev.congr (f := fun k => (galoisref50_SquarefreePart.f k (-((D / 4 : Nat) : Int))).bind fun bt107 => if bt107.2 = 1 then (galoisref04_Mod.f bt107.1 4).bind fun t109 => some (t109 != 1) else some false) (fun k => ?_) (Ev.bind hs2 ?_)
          · simp only [m4, Option.bind_some, e0, ed, if_true]
            rw [if_neg (by omega)]
          · refine (Ev.now _).congr (fun k => ?_)
            simp only [m42, Option.bind_some]
            rw [if_pos (by omega)]
        · refine Ev.step (f := fun k => (quadratic_part.f k (-((D / 4 : Nat) : Int))).bind fun bt115 => if bt115.2 = 1 then some (decide (-((D / 4 : Nat) : Int) % 4 > 1)) else some false) (fun k => ?_) (Ev.bind hs2' ?_)
          · simp only [quadratic_fundamental.j0, quadratic_mod4.f, and3, Option.bind_some, e0, ed, if_true]
            simp
          · refine (Ev.now _).congr (fun k => ?_)
            rw [if_pos (by omega)]
            congr 1
            rw [Bool.eq_iff_iff]
            simp
            omega
        · intro h
          have := bne_iff_ne.mp h
          exact .inr ⟨c0, hn, by omega⟩
      · refine ⟨false, r0 ?_, p0 ?_, by simp⟩
        · refine Ev.step (fun k => by simp only [galoisref50_IsFundamental.j0]; rfl) (Ev.bind hs ?_)
          refine Ev.congr (f := fun k => (galoisref50_SquarefreePart.f k (-((D / 4 : Nat) : Int))).bind fun bt107 => if bt107.2 = 1 then (galoisref04_Mod.f bt107.1 4).bind fun t109 => some (t109 != 1) else some false) (fun k => ?_) (Ev.bind hs2 ?_)
          · simp only [m4, Option.bind_some, e0, ed, if_true]
            rw [if_neg (by omega)]
          · refine (Ev.now _).congr (fun k => ?_)
            rw [if_neg (by omega)]
        · refine Ev.step (f := fun k => (quadratic_part.f k (-((D / 4 : Nat) : Int))).bind fun bt115 => if bt115.2 = 1 then some (decide (-((D / 4 : Nat) : Int) % 4 > 1)) else some false) (fun k => ?_) (Ev.bind hs2' ?_)
          · simp only [quadratic_fundamental.j0, quadratic_mod4.f, and3, Option.bind_some, e0, ed, if_true]
            simp
          · refine (Ev.now _).congr (fun k => ?_)
            rw [if_neg (by omega)]
    · have e0 : ¬ (-(D : Int)) % 4 = 0 := by omega
      refine ⟨false, r0 ?_, p0 ?_, by simp⟩
      · refine Ev.step (fun k => by simp only [galoisref50_IsFundamental.j0]; rfl) (Ev.bind hs ?_)
        refine (Ev.now _).congr (fun k => ?_)
        simp only [m4, Option.bind_some]
        rw [if_neg e1, if_neg e0]
      · refine Ev.step (f := fun _ => some false) (fun k => ?_) (Ev.now _)
        simp only [quadratic_fundamental.j0, quadratic_mod4.f, and3, Option.bind_some]
        rw [if_neg (by simp), if_neg e1, if_neg e0]

end Go.Proofs.Ytppdaagiofcmkaa.M
