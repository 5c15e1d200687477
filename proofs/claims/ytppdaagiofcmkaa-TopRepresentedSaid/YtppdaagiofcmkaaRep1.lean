import Derived.Test.YtppdaagiofcmkaaRep0
/- What the check of the representations says: digit by digit. -/
namespace Go.Proofs.Ytppdaagiofcmkaa.Rep
open Go.Proofs.Ytppdaagiofcmkaa.Chk (fsum fall force good amb units factor masks dbl fsum_S force_eq beq_dec beq_true Tells T Nosq prodL lanes f4 f8 f8')
open Go.Proofs.Ytppdaagiofcmkaa.Recip (G S S_congr S_add S_mul S_swap S_succ S_zero S_const)

/-! what is linear -/
def Lin (F : (Nat → Nat) → Nat) : Prop := ∀ (n : Nat) (c : Nat → Nat) (h : Nat → Nat → Nat), F (fun v => S (fun m => c m * h m v) n) = S (fun m => c m * F (h m)) n
theorem Lin.at (v : Nat) : Lin (fun g => g v) := fun _ _ _ => rfl
theorem Lin.zero : Lin (fun _ => 0) := fun n c h => by
  rw [S_congr (g := fun _ => 0) (fun m _ => Nat.mul_zero _), S_const, Nat.mul_zero]
theorem Lin.add {F F' : (Nat → Nat) → Nat} (h1 : Lin F) (h2 : Lin F') : Lin (fun g => F g + F' g) := fun n c h => by
  show F _ + F' _ = _
  rw [h1, h2, ← S_add]
  exact S_congr (fun m _ => (Nat.mul_add _ _ _).symm)
theorem Lin.mul {F : (Nat → Nat) → Nat} (k : Nat) (h1 : Lin F) : Lin (fun g => k * F g) := fun n c h => by
  show k * F _ = _
  rw [h1, ← S_mul]
  exact S_congr (fun m _ => Nat.mul_left_comm _ _ _)
theorem Lin.sum {F : Nat → (Nat → Nat) → Nat} (N : Nat) (h1 : ∀ i, Lin (F i)) : Lin (fun g => S (fun i => F i g) N) := fun n c h => by
  show S (fun i => F i _) N = _
  rw [S_congr (g := fun i => S (fun m => c m * F i (h m)) n) (fun i _ => h1 i n c h), S_swap (fun m i => c m * F i (h m))]
  exact S_congr (fun m _ => S_mul _ _ _)
theorem Lin.cond {F F' : (Nat → Nat) → Nat} (b : Bool) (h1 : Lin F) (h2 : Lin F') : Lin (fun g => cond b (F g) (F' g)) := by
  cases b
  · exact h2
  · exact h1

def wxy (x y : Nat) : Nat := cond (Nat.beq x 0) 1 (cond (Nat.beq y 0) 1 2)
def val (a c x y : Nat) : Nat := a * (x * x) + c * (y * y)
theorem pts_S (D a b c : Nat) (g : Nat → Nat) : pts D a b c g = S (fun y => cond (Nat.blt (1200 * a) (D * (y * y))) 0 (S (fun x => wxy x y * (g (val a c x y + b * x * y) + g (val a c x y - b * x * y))) 25)) 25 := by
  unfold pts
  rw [fsum_S]
  apply S_congr
  intro y _
  rw [fsum_S]
  rfl
theorem pts_lin (D a b c : Nat) : Lin (pts D a b c) := by
  have e : pts D a b c = fun g => S (fun y => cond (Nat.blt (1200 * a) (D * (y * y))) 0 (S (fun x => wxy x y * (g (val a c x y + b * x * y) + g (val a c x y - b * x * y))) 25)) 25 := funext (pts_S D a b c)
  rw [e]
  exact Lin.sum 25 (fun y => Lin.cond _ Lin.zero (Lin.sum 25 (fun x => Lin.mul _ (Lin.add (Lin.at _) (Lin.at _)))))

def cf (D a b : Nat) : Nat := (b * b + D) / (4 * a)
theorem phi_S (D : Nat) (g : Nat → Nat) : phi D g = S (fun a => cond (Nat.blt D (3 * ((a + 1) * (a + 1)))) 0 (S (fun b => cond (good D (a + 1) b) (cond (amb D (a + 1) b) 1 2 * pts D (a + 1) b (cf D (a + 1) b) g) 0) (a + 2))) 26 := by
  unfold phi
  rw [fsum_S]
  apply S_congr
  intro a _
  rw [fsum_S]
  rfl
theorem phi_lin (D : Nat) : Lin (phi D) := by
  have e : phi D = fun g => S (fun a => cond (Nat.blt D (3 * ((a + 1) * (a + 1)))) 0 (S (fun b => cond (good D (a + 1) b) (cond (amb D (a + 1) b) 1 2 * pts D (a + 1) b (cf D (a + 1) b) g) 0) (a + 2))) 26 := funext (phi_S D)
  rw [e]
  exact Lin.sum 26 (fun a => Lin.cond _ Lin.zero (Lin.sum (a + 2) (fun b => Lin.cond _ (Lin.mul _ (pts_lin D (a + 1) b _)) Lin.zero)))

/-! bounds -/
theorem S_bd (f : Nat → Nat) (n k : Nat) (h : ∀ i, i < n → f i ≤ k) : S f n ≤ n * k := by
  rw [← S_const]; exact Chk.S_le _ _ _ h
theorem pts_bd (D a b c : Nat) (g : Nat → Nat) (hg : ∀ v, g v ≤ 1) : pts D a b c g ≤ 2500 := by
  rw [pts_S]
  refine S_bd _ 25 100 (fun y _ => ?_)
  cases Nat.blt (1200 * a) (D * (y * y)) with
  | true => exact Nat.zero_le _
  | false =>
    refine S_bd _ 25 4 (fun x _ => ?_)
    have h1 := hg (val a c x y + b * x * y)
    have h2 := hg (val a c x y - b * x * y)
    have h3 : wxy x y ≤ 2 := by unfold wxy; cases Nat.beq x 0 <;> cases Nat.beq y 0 <;> simp
    exact Nat.mul_le_mul h3 (by omega : _ ≤ 2)
theorem phi_bd (D : Nat) (g : Nat → Nat) (hg : ∀ v, g v ≤ 1) : phi D g ≤ 4000000 := by
  rw [phi_S]
  refine Nat.le_trans (S_bd _ 26 140000 (fun a ha => ?_)) (by omega)
  cases Nat.blt D (3 * ((a + 1) * (a + 1))) with
  | true => exact Nat.zero_le _
  | false =>
    refine Nat.le_trans (S_bd _ (a + 2) 5000 (fun b _ => ?_)) (by omega)
    have := pts_bd D (a + 1) b (cf D (a + 1) b) g hg
    cases good D (a + 1) b <;> cases amb D (a + 1) b <;> simp <;> omega

/-! digits -/
def cB (m : Nat) : Nat := if m = 0 then 0 else 2 ^ (32 * m)
def ind (m v : Nat) : Nat := if v = m then 1 else 0
theorem S_one (f : Nat → Nat) (v n : Nat) (hv : v < n) : S (fun m => f m * (if v = m then 1 else 0)) n = f v := by
  induction n with
  | zero => omega
  | succ n ih =>
    rw [S_succ]
    by_cases h : v = n
    · subst h
      rw [if_pos rfl, Nat.mul_one, S_congr (g := fun _ => 0), S_const, Nat.mul_zero, Nat.zero_add]
      intro m hm
      rw [if_neg (by omega), Nat.mul_zero]
    · rw [ih (by omega), if_neg h, Nat.mul_zero, Nat.add_zero]
theorem S_none (f : Nat → Nat) (v n : Nat) (hv : n ≤ v) : S (fun m => f m * (if v = m then 1 else 0)) n = 0 := by
  rw [S_congr (g := fun _ => 0), S_const, Nat.mul_zero]
  intro m hm
  rw [if_neg (by omega), Nat.mul_zero]

theorem gB_S : gB = fun v => S (fun m => cB m * ind m v) 301 := by
  funext v
  unfold gB ind
  rw [beq_dec]
  by_cases h : v ≤ 300
  · rw [show Nat.ble v 300 = true from Nat.ble_eq.mpr h, S_one cB v 301 (by omega)]
    unfold cB
    by_cases h0 : v = 0
    · rw [decide_eq_true h0, if_pos h0]; rfl
    · rw [decide_eq_false h0, if_neg h0]
      show 1 <<< (32 * v) = _
      rw [Nat.one_shiftLeft]
  · rw [S_none cB v 301 (by omega)]
    cases hc : Nat.ble v 300 with
    | false => rfl
    | true => exact absurd (Nat.ble_eq.mp hc) h

theorem S_mult (F : Nat → Nat) (q : Nat) : ∀ N, S (fun i => if q ∣ i + 1 then F (i + 1) else 0) N = S (fun j => F (q * (j + 1))) (N / q) := by
  intro N
  induction N with
  | zero => rw [Nat.zero_div]; rfl
  | succ N ih =>
    rw [S_succ, ih]
    by_cases h : q ∣ N + 1
    · rw [if_pos h, Nat.succ_div_of_dvd h, S_succ]
      congr 2
      rw [← Nat.succ_div_of_dvd h, Nat.mul_div_cancel' h]
    · rw [if_neg h, Nat.succ_div_of_not_dvd h, Nat.add_zero]

/-- How many of the numbers of a mask divide m. -/
def dv (A m : Nat) : Nat := S (fun k => (if A.testBit (k + 1) = true then 1 else 0) * (if (k + 1) ∣ m then 1 else 0)) 300

theorem mults_S (A : Nat) : mults A = S (fun m => cB m * dv A m) 301 := by
  unfold mults dv
  rw [fsum_S]
  have e : ∀ m, cB m * S (fun k => (if A.testBit (k + 1) = true then 1 else 0) * (if (k + 1) ∣ m then 1 else 0)) 300 = S (fun k => cB m * ((if A.testBit (k + 1) = true then 1 else 0) * (if (k + 1) ∣ m then 1 else 0))) 300 := fun m => (S_mul _ _ _).symm
  simp only [e]
  rw [S_swap (fun k m => cB m * ((if A.testBit (k + 1) = true then 1 else 0) * (if (k + 1) ∣ m then 1 else 0)))]
  apply S_congr
  intro k _
  cases A.testBit (k + 1) with
  | false =>
    rw [S_congr (g := fun _ => 0), S_const]
    · rfl
    · intro m _; simp
  | true =>
    show fsum (fun j => 1 <<< (32 * ((k + 1) * (j + 1)))) (300 / (k + 1)) = _
    rw [fsum_S]
    have h1 : S (fun m => cB m * ((if true = true then 1 else 0) * (if (k + 1) ∣ m then 1 else 0))) 301 = S (fun i => if (k + 1) ∣ i + 1 then cB (i + 1) else 0) 300 := by
      have hs : ∀ (f : Nat → Nat) (n : Nat), S f (n + 1) = f 0 + S (fun i => f (i + 1)) n := by
        intro f n
        induction n with
        | zero => rw [S_succ, S_zero, S_zero]; omega
        | succ n ih => rw [S_succ, ih, S_succ]; omega
      rw [hs, show cB 0 = 0 from rfl, Nat.zero_mul, Nat.zero_add]
      apply S_congr
      intro i _
      rw [if_pos rfl, Nat.one_mul]
      split <;> simp
    rw [h1, S_mult]
    apply S_congr
    intro j _
    unfold cB
    rw [if_neg (Nat.ne_of_gt (Nat.mul_pos (Nat.succ_pos k) (Nat.succ_pos j))), Nat.one_shiftLeft]

theorem digits : ∀ (n : Nat) (x y : Nat → Nat), (∀ m, m < n → x m < 4294967296 ∧ y m < 4294967296) → S (fun m => 2 ^ (32 * m) * x m) n = S (fun m => 2 ^ (32 * m) * y m) n → ∀ m, m < n → x m = y m := by
  have hs : ∀ (f : Nat → Nat) (n : Nat), S f (n + 1) = f 0 + S (fun i => f (i + 1)) n := by
    intro f n
    induction n with
    | zero => rw [S_succ, S_zero, S_zero]; omega
    | succ n ih => rw [S_succ, ih, S_succ]; omega
  intro n
  induction n with
  | zero => intro x y _ _ m hm; omega
  | succ n ih =>
    intro x y hb he
    rw [hs, hs] at he
    simp only [Nat.mul_zero, Nat.pow_zero, Nat.one_mul] at he
    have e : ∀ z : Nat → Nat, S (fun i => 2 ^ (32 * (i + 1)) * z (i + 1)) n = 4294967296 * S (fun i => 2 ^ (32 * i) * z (i + 1)) n := by
      intro z
      rw [← S_mul]
      apply S_congr
      intro i _
      rw [Nat.mul_add, Nat.pow_add, Nat.mul_comm (2 ^ (32 * i)), Nat.mul_assoc]
    rw [e, e] at he
    have h0 := hb 0 (by omega)
    have hx : x 0 = y 0 := by omega
    have hr := ih (fun i => x (i + 1)) (fun i => y (i + 1)) (fun m hm => hb (m + 1) (by omega)) (by omega)
    intro m hm
    cases m with
    | zero => exact hx
    | succ m => exact hr m (by omega)

theorem dv_bd (A m : Nat) : dv A m ≤ 300 := by
  refine Nat.le_trans (S_bd _ 300 1 (fun k _ => ?_)) (by omega)
  split <;> split <;> simp

/-- What the check says, digit by digit. -/
theorem fin_sound {D A B : Nat} (h : fin D A B = true) (m : Nat) (h1 : 1 ≤ m) (h2 : m ≤ 300) : phi D (ind m) + units D * dv B m = units D * dv A m := by
  have h3 : phi D gB + units D * mults B = units D * mults A := beq_true h
  rw [gB_S, phi_lin, mults_S, mults_S, ← S_mul, ← S_mul, ← S_add] at h3
  have hu : units D ≤ 6 := by unfold units; cases Nat.beq D 3 <;> cases Nat.beq D 4 <;> simp
  have bx : ∀ m, phi D (ind m) + units D * dv B m < 4294967296 := fun m => by
    have b1 := phi_bd D (ind m) (fun v => by unfold ind; split <;> omega)
    have b2 := Nat.mul_le_mul hu (dv_bd B m)
    omega
  have bY : ∀ m, units D * dv A m < 4294967296 := fun m => by
    have b2 := Nat.mul_le_mul hu (dv_bd A m)
    omega
  have := digits 301 (fun m => if m = 0 then 0 else phi D (ind m) + units D * dv B m) (fun m => if m = 0 then 0 else units D * dv A m) (fun m _ => by
    have := bx m
    have := bY m
    split <;> omega) ?_ m (by omega)
  · rw [if_neg (by omega), if_neg (by omega)] at this
    exact this
  · refine Eq.trans ?_ (h3.trans ?_)
    · apply S_congr
      intro m _
      unfold cB
      split
      · simp
      · rw [Nat.mul_add, Nat.mul_left_comm]
    · apply S_congr
      intro m _
      unfold cB
      split
      · simp
      · rw [Nat.mul_left_comm]

/-! the masks, below 301 -/
def Says (D : Nat) : Prop := ∀ m, 1 ≤ m → m ≤ 300 → phi D (ind m) + units D * S (fun k => if T D (k + 1) = -1 ∧ (k + 1) ∣ m then 1 else 0) 300 = units D * S (fun k => if T D (k + 1) = 1 ∧ (k + 1) ∣ m then 1 else 0) 300

theorem rep1_sound {D m A B : Nat} (f : Nat → Int) (hmD : m ≤ 10000) (hm : m % 2 = 1) (hsq : Nosq m) (hT : Tells 301 A B f) (hA : A < 2 ^ 301) (hB : B < 2 ^ 301)
    (hf : ∀ k, k < 301 → T D k = f k * G k m) (h : rep1 D m A B = true) : Says D := by
  unfold rep1 at h
  have hfac := Chk.factor_sound 60 m 3 [] (by omega) (by omega)
  cases hL : factor 60 m 3 [] with
  | none =>
    rw [hL] at hfac
    obtain ⟨q, hq, hd⟩ := hfac
    exact absurd hd (hsq q hq)
  | some L =>
    rw [hL] at hfac h
    simp only [prodL, Nat.mul_one] at hfac h
    have hle : ∀ p ∈ L, p ≤ 10000 := fun p hp => by
      have := Nat.le_of_dvd (by omega) (Chk.prodL_dvd hp)
      omega
    obtain ⟨_, A', B', hfin, hT', _, _⟩ := Chk.masks_sound 301 (by omega) _ L A B f (by omega) hle hT hA hB h
    intro m h1 h2
    have := fin_sound hfin m h1 h2
    have eA : dv A' m = S (fun k => if T D (k + 1) = 1 ∧ (k + 1) ∣ m then 1 else 0) 300 := by
      unfold dv
      apply S_congr
      intro k hk
      rw [(hT' (k + 1) (by omega)).1, hf (k + 1) (by omega), hfac]
      by_cases c1 : f (k + 1) * G (k + 1) m = 1 <;> by_cases c2 : (k + 1) ∣ m <;> simp [*]
    have eB : dv B' m = S (fun k => if T D (k + 1) = -1 ∧ (k + 1) ∣ m then 1 else 0) 300 := by
      unfold dv
      apply S_congr
      intro k hk
      rw [(hT' (k + 1) (by omega)).2.1, hf (k + 1) (by omega), hfac]
      by_cases c1 : f (k + 1) * G (k + 1) m = -1 <;> by_cases c2 : (k + 1) ∣ m <;> simp [*]
    rw [eA, eB] at this
    exact this

theorem cutW_eq (W x : Nat) : cutW W x = x % 2 ^ W := rfl
theorem ones_lt (n : Nat) : ones n < 2 ^ n := by
  have := Nat.two_pow_pos n
  show 2 ^ n - 1 < 2 ^ n
  omega
theorem ones_bit (n k : Nat) (hk : k < n) : (ones n).testBit k = true := by
  show (2 ^ n - 1).testBit k = true
  rw [Nat.testBit_two_pow_sub_one, decide_eq_true hk]

theorem rep_sound {D : Nat} (hD : D ≤ 10000) (h : rep D = true) :
    (D % 4 = 3 → Nosq D → Says D) ∧ (D % 16 = 4 → Nosq (D / 4) → Says D) ∧ (D % 32 = 8 → Nosq (D / 8) → Says D) ∧ (D % 32 = 24 → Nosq (D / 8) → Says D) := by
  unfold rep at h
  have q1 : Nat.beq (Nat.mod D 4) 3 = decide (D % 4 = 3) := beq_dec _ _
  have q2 : Nat.beq (Nat.mod D 16) 4 = decide (D % 16 = 4) := beq_dec _ _
  have q3 : Nat.beq (Nat.mod D 32) 8 = decide (D % 32 = 8) := beq_dec _ _
  have q4 : Nat.beq (Nat.mod D 32) 24 = decide (D % 32 = 24) := beq_dec _ _
  rw [q1, q2, q3, q4] at h
  have m0 : ∀ x : Nat, x % 2 ^ 301 < 2 ^ 301 := fun x => Nat.mod_lt _ (Nat.two_pow_pos 301)
  have e4 : ∀ k, f4 k = f4 (k % 8) := fun k => by
    unfold f4
    rw [show k % 8 % 2 = k % 2 from by omega, show k % 8 % 4 = k % 4 from by omega]
  have e8 : ∀ k, f8 k = f8 (k % 8) := fun k => by
    unfold f8
    rw [show k % 8 % 2 = k % 2 from by omega, Nat.mod_mod]
  have e8' : ∀ k, f8' k = f8' (k % 8) := fun k => by
    unfold f8'
    rw [show k % 8 % 2 = k % 2 from by omega, Nat.mod_mod]
  have t4 : Tells 301 (dbl 301 14 34 8 % 2 ^ 301) (dbl 301 14 136 8 % 2 ^ 301) f4 := Chk.tells_eight f4 (by omega) (by omega) (by omega) e4 (by decide)
  have t8 : Tells 301 (dbl 301 14 10 8 % 2 ^ 301) (dbl 301 14 160 8 % 2 ^ 301) f8 := Chk.tells_eight f8 (by omega) (by omega) (by omega) e8 (by decide)
  have t8' : Tells 301 (dbl 301 14 130 8 % 2 ^ 301) (dbl 301 14 40 8 % 2 ^ 301) f8' := Chk.tells_eight f8' (by omega) (by omega) (by omega) e8' (by decide)
  refine ⟨fun c hs => ?_, fun c hs => ?_, fun c hs => ?_, fun c hs => ?_⟩
  · rw [decide_eq_true c, cond] at h
    have hpos := Nat.two_pow_pos 301
    refine rep1_sound (fun _ => 1) hD (by omega) hs ?_ (ones_lt 301) hpos (fun k _ => ?_) h
    · exact fun k hk => ⟨(ones_bit 301 k hk).trans (by simp), by simp, .inr (.inl rfl)⟩
    · unfold T; rw [if_pos c, Int.one_mul]
  · rw [decide_eq_false (show ¬ D % 4 = 3 from by omega), decide_eq_true c, cond, cond, force_eq, force_eq, cutW_eq, cutW_eq] at h
    refine rep1_sound f4 (by omega) (by omega) hs t4 (m0 _) (m0 _) (fun k _ => ?_) h
    unfold T f4
    rw [if_neg (show ¬ D % 4 = 3 from by omega), if_pos c]
    split <;> simp
  · rw [decide_eq_false (show ¬ D % 4 = 3 from by omega), decide_eq_false (show ¬ D % 16 = 4 from by omega), decide_eq_true c, cond, cond, cond, force_eq, force_eq, cutW_eq, cutW_eq] at h
    refine rep1_sound f8 (by omega) (by omega) hs t8 (m0 _) (m0 _) (fun k _ => ?_) h
    unfold T f8
    rw [if_neg (show ¬ D % 4 = 3 from by omega), if_neg (show ¬ D % 16 = 4 from by omega), if_pos c]
    split <;> simp
  · rw [decide_eq_false (show ¬ D % 4 = 3 from by omega), decide_eq_false (show ¬ D % 16 = 4 from by omega), decide_eq_false (show ¬ D % 32 = 8 from by omega), decide_eq_true c, cond, cond, cond, cond, force_eq, force_eq, cutW_eq, cutW_eq] at h
    refine rep1_sound f8' (by omega) (by omega) hs t8' (m0 _) (m0 _) (fun k _ => ?_) h
    unfold T f8'
    rw [if_neg (show ¬ D % 4 = 3 from by omega), if_neg (show ¬ D % 16 = 4 from by omega), if_neg (show ¬ D % 32 = 8 from by omega)]
    split <;> simp

theorem chunk_at {a n D : Nat} (h : chunk a n = true) (h1 : a ≤ D) (h2 : D < a + n) : rep D = true := by
  have := Chk.fall_true h (D - a) (by omega)
  rwa [show Nat.add a (D - a) = D from by show a + (D - a) = D; omega] at this
end Go.Proofs.Ytppdaagiofcmkaa.Rep
