import Derived.Test.YtppdaagiofcmkaaChk0
/- What the check says, part by part. -/
namespace Go.Proofs.Ytppdaagiofcmkaa.Chk
open Go.Proofs.Ytppdaagiofcmkaa.Recip (G S)

theorem fsum_zero (f : Nat → Nat) : fsum f 0 = 0 := rfl
theorem fsum_succ (f : Nat → Nat) (n : Nat) : fsum f (n + 1) = fsum f n + f n := rfl
theorem fsum_S (f : Nat → Nat) (n : Nat) : fsum f n = S f n := by
  induction n with
  | zero => rfl
  | succ n ih => rw [fsum_succ, Recip.S_succ, ih]
theorem fall_succ (f : Nat → Bool) (n : Nat) : fall f (n + 1) = cond (f n) (fall f n) false := rfl
theorem fall_true {f : Nat → Bool} {n : Nat} (h : fall f n = true) : ∀ i, i < n → f i = true := by
  induction n with
  | zero => intro i hi; omega
  | succ n ih =>
    rw [fall_succ] at h
    cases hf : f n with
    | false => rw [hf] at h; exact absurd h (by simp)
    | true =>
      rw [hf] at h
      intro i hi
      by_cases he : i = n
      · subst he; exact hf
      · exact ih h i (by omega)
theorem force_eq {α : Type} (x : Nat) (d : α) (c : Nat → α) : force x d c = c x := rfl
theorem cond_true {a b : Bool} (h : cond a b false = true) : a = true ∧ b = true := by cases a <;> simp_all
theorem beq_true {a b : Nat} (h : Nat.beq a b = true) : a = b := Nat.eq_of_beq_eq_true h

theorem beq_dec (a b : Nat) : Nat.beq a b = decide (a = b) := by
  by_cases h : a = b
  · subst h; rw [decide_eq_true rfl]; exact Nat.beq_refl a
  · rw [decide_eq_false h]
    cases hb : Nat.beq a b with
    | false => rfl
    | true => exact absurd (Nat.eq_of_beq_eq_true hb) h

def sg (s : Bool) : Int := if s then -1 else 1
theorem sg_not (s : Bool) : sg (!s) = -sg s := by cases s <;> rfl

theorem jacb_sound (fuel : Nat) : ∀ (a n : Nat) (s : Bool), n % 2 = 1 → jacb fuel a n s = true → sg s * G a n = -1 := by
  induction fuel with
  | zero => intro a n s _ h; exact absurd h (by simp [jacb])
  | succ fuel ih =>
    intro a n s hn h
    cases a with
    | zero =>
      have h1 : cond (Nat.beq n 1) s false = true := h
      obtain ⟨h2, h3⟩ := cond_true h1
      have h4 := beq_true h2
      subst h4 h3
      rw [Recip.G_one_right]; rfl
    | succ a =>
      have h1 : cond (Nat.beq ((a + 1) % 2) 0) (jacb fuel ((a + 1) / 2) n (cond (Nat.beq (n % 8) 3) (!s) (cond (Nat.beq (n % 8) 5) (!s) s)))
          (jacb fuel (n % (a + 1)) (a + 1) (cond (Nat.beq ((a + 1) % 4) 3) (cond (Nat.beq (n % 4) 3) (!s) s) s)) = true := h
      rw [beq_dec, beq_dec, beq_dec, beq_dec, beq_dec] at h1
      by_cases he : (a + 1) % 2 = 0
      · rw [decide_eq_true he, cond] at h1
        have h2 := ih _ _ _ hn h1
        refine Eq.trans ?_ h2
        rw [Recip.G_even hn he, Recip.G_two hn]
        by_cases c3 : n % 8 = 3
        · rw [decide_eq_true c3, cond, sg_not, if_neg (by omega)]; simp [Int.neg_mul, Int.mul_neg]
        · by_cases c5 : n % 8 = 5
          · rw [decide_eq_false c3, decide_eq_true c5, cond, cond, sg_not, if_neg (by omega)]; simp [Int.neg_mul, Int.mul_neg]
          · rw [decide_eq_false c3, decide_eq_false c5, cond, cond, if_pos (by omega)]; simp
      · rw [decide_eq_false he, cond] at h1
        have h2 := ih _ _ _ (by omega) h1
        refine Eq.trans ?_ h2
        rw [Recip.G_flip (by omega) hn]
        by_cases c3 : (a + 1) % 4 = 3
        · by_cases c5 : n % 4 = 3
          · rw [decide_eq_true c3, decide_eq_true c5, cond, cond, sg_not, if_pos ⟨c3, c5⟩]; simp [Int.neg_mul, Int.mul_neg]
          · rw [decide_eq_true c3, decide_eq_false c5, cond, cond, if_neg (fun hh => c5 hh.2)]; simp
        · rw [decide_eq_false c3, cond, if_neg (fun hh => c3 hh.1)]; simp

theorem gen_sound (p n k : Nat) : ∀ (j P N : Nat) (c : Nat → Nat → Bool), gen p n k j P N c = true →
    ∃ P' N', c P' N' = true ∧ (∀ r, P'.testBit r = true → P.testBit r = true ∨ ∃ i, j ≤ i ∧ i < j + k ∧ i * i % p = r) ∧
      (∀ r, N'.testBit r = true → N.testBit r = true ∨ ∃ i, j ≤ i ∧ i < j + k ∧ n * (i * i % p) % p = r) := by
  induction k with
  | zero => intro j P N c h; exact ⟨P, N, h, fun r hr => .inl hr, fun r hr => .inl hr⟩
  | succ k ih =>
    intro j P N c h
    have h1 : gen p n k (j + 1) (P ||| (1 <<< (j * j % p))) (N ||| (1 <<< (n * (j * j % p) % p))) c = true := h
    obtain ⟨P', N', hc, hP, hN⟩ := ih _ _ _ _ h1
    refine ⟨P', N', hc, ?_, ?_⟩
    · intro r hr
      rcases hP r hr with h2 | ⟨i, hi1, hi2, hi3⟩
      · rw [Nat.testBit_or, Nat.one_shiftLeft, Nat.testBit_two_pow, Bool.or_eq_true, decide_eq_true_iff] at h2
        rcases h2 with h2 | h2
        · exact .inl h2
        · exact .inr ⟨j, by omega, by omega, h2⟩
      · exact .inr ⟨i, by omega, by omega, hi3⟩
    · intro r hr
      rcases hN r hr with h2 | ⟨i, hi1, hi2, hi3⟩
      · rw [Nat.testBit_or, Nat.one_shiftLeft, Nat.testBit_two_pow, Bool.or_eq_true, decide_eq_true_iff] at h2
        rcases h2 with h2 | h2
        · exact .inl h2
        · exact .inr ⟨j, by omega, by omega, h2⟩
      · exact .inr ⟨i, by omega, by omega, hi3⟩

def Prime (p : Nat) : Prop := 2 ≤ p ∧ ∀ q, 2 ≤ q → q ∣ p → q = p

theorem prime_of {p : Nat} (h2 : 2 ≤ p) (h : ∀ i, 2 ≤ i → i * i ≤ p → ¬ i ∣ p) : Prime p := by
  refine ⟨h2, ?_⟩
  intro q hq hd
  obtain ⟨c, hc⟩ := hd
  apply Classical.byContradiction
  intro hne
  have hc2 : 2 ≤ c := by
    rcases c with _ | _ | c
    · omega
    · omega
    · omega
  by_cases hqc : q ≤ c
  · exact h q hq (by rw [hc]; exact Nat.mul_le_mul_left q hqc) ⟨c, hc⟩
  · exact h c hc2 (by rw [hc]; exact Nat.mul_le_mul_right c (by omega)) ⟨q, by rw [hc, Nat.mul_comm]⟩

theorem isprime_sound {p : Nat} (hp : p ≤ 10200) (h : isprime p = true) : Prime p := by
  obtain ⟨h1, h2⟩ := cond_true h
  have h1' : 1 < p := Nat.blt_eq.mp h1
  apply prime_of (by omega)
  intro i hi hii hd
  have hi100 : i < 102 := by
    apply Classical.byContradiction
    intro hc
    have := Nat.mul_le_mul (show 102 ≤ i from by omega) (show 102 ≤ i from by omega)
    omega
  have h3 := fall_true h2 (i - 2) (by omega)
  rw [show i - 2 + 2 = i from by omega] at h3
  have h4 : Nat.blt p (Nat.mul i i) = false := by
    cases hb : Nat.blt p (Nat.mul i i) with
    | false => rfl
    | true =>
      have : p < i * i := Nat.blt_eq.mp hb
      omega
  rw [h4, cond] at h3
  have h5 : Nat.mod p i = 0 := Nat.mod_eq_zero_of_dvd hd
  rw [h5] at h3
  exact absurd h3 (by simp)

theorem Prime.coprime {p : Nat} (h : Prime p) {i : Nat} (h0 : 0 < i) (hi : i < p) : Nat.gcd i p = 1 := by
  have h1 := Nat.gcd_dvd_right i p
  have h2 := Nat.gcd_dvd_left i p
  have h3 := Nat.le_of_dvd h0 h2
  have h4 : 0 < Nat.gcd i p := Nat.gcd_pos_of_pos_left _ h0
  apply Classical.byContradiction
  intro hne
  have := h.2 _ (by omega) h1
  omega

/-- Two masks that tell a function with the values 1 and -1 (and 0), below W. -/
def Tells (W A B : Nat) (f : Nat → Int) : Prop := ∀ k, k < W → A.testBit k = decide (f k = 1) ∧ B.testBit k = decide (f k = -1) ∧ (f k = 0 ∨ f k = 1 ∨ f k = -1)

theorem G_square {p i : Nat} (hp : Prime p) (ho : p % 2 = 1) (h0 : 0 < i) (hi : i < p) : G (i * i) p = 1 := by
  rw [Recip.G_mul _ _ _ ho]
  rcases Recip.G_sq i p with h | h | h
  · unfold Recip.G at h
    rw [if_pos (hp.coprime h0 hi)] at h
    unfold Recip.sgn at h
    split at h <;> simp at h
  · rw [h]; rfl
  · rw [h]; rfl

theorem prime_masks {p n P N : Nat} (hp : Prime p) (ho : p % 2 = 1) (hn : G n p = -1)
    (hP : ∀ r, P.testBit r = true → ∃ i, 1 ≤ i ∧ i < 1 + p / 2 ∧ i * i % p = r)
    (hN : ∀ r, N.testBit r = true → ∃ i, 1 ≤ i ∧ i < 1 + p / 2 ∧ n * (i * i % p) % p = r)
    (he : P ||| N = 2 ^ p - 2) : Tells p P N (fun k => G k p) ∧ (∀ k, p ≤ k → P.testBit k = false ∧ N.testBit k = false) := by
  have h2 := hp.1
  have hbit : ∀ r, (P ||| N).testBit r = (decide (r < p) && !decide (r = 0)) := by
    intro r
    rw [he, show 2 ^ p - 2 = 2 ^ p - (1 + 1) from rfl, Nat.testBit_two_pow_sub_succ (Nat.one_lt_two_pow (by omega))]
    congr 2
    cases r with
    | zero => rfl
    | succ r => simp [Nat.testBit_succ]
  have hpos : ∀ r, P.testBit r = true → G r p = 1 := by
    intro r hr
    obtain ⟨i, h1, h2, h3⟩ := hP r hr
    rw [← h3, Recip.G_mod]
    exact G_square hp ho (by omega) (by omega)
  have hneg : ∀ r, N.testBit r = true → G r p = -1 := by
    intro r hr
    obtain ⟨i, h1, h2, h3⟩ := hN r hr
    rw [← h3, Recip.G_mod, Recip.G_mul _ _ _ ho, Recip.G_mod, hn, G_square hp ho (by omega) (by omega)]
    rfl
  constructor
  · intro r hr
    have hb := hbit r
    rw [Nat.testBit_or] at hb
    by_cases h0 : r = 0
    · subst h0
      have hz : G 0 p = 0 := Recip.G_zero (by omega)
      rw [decide_eq_true hr] at hb
      have hb1 : P.testBit 0 = false ∧ N.testBit 0 = false := by
        cases h1 : P.testBit 0 <;> cases h2 : N.testBit 0 <;> rw [h1, h2] at hb <;> simp at hb ⊢
      refine ⟨by rw [hb1.1]; simp [hz], by rw [hb1.2]; simp [hz], .inl hz⟩
    · rw [decide_eq_true hr, decide_eq_false h0] at hb
      simp at hb
      cases hPr : P.testBit r with
      | true =>
        have g := hpos r hPr
        cases hNr : N.testBit r with
        | true => have g' := hneg r hNr; rw [g] at g'; exact absurd g' (by decide)
        | false => exact ⟨by simp [g], by simp [g], .inr (.inl g)⟩
      | false =>
        rw [hPr] at hb
        have hNr : N.testBit r = true := by simpa using hb
        have g := hneg r hNr
        exact ⟨by simp [g], by simp [g, hNr], .inr (.inr g)⟩
  · intro k hk
    have hb := hbit k
    rw [Nat.testBit_or, decide_eq_false (by omega)] at hb
    simpa using hb

theorem dbl_sound (W p : Nat) (f : Nat → Bool) (fuel : Nat) : ∀ (m w : Nat), 0 < w → p ∣ w → (∀ k, k < w → m.testBit k = f (k % p)) → (∀ k, w ≤ k → m.testBit k = false) →
    W ≤ w * 2 ^ fuel → ∀ k, k < W → (dbl W fuel m w).testBit k = f (k % p) := by
  induction fuel with
  | zero =>
    intro m w hw hd h1 h2 hW k hk
    exact h1 k (by omega)
  | succ fuel ih =>
    intro m w hw hd h1 h2 hW k hk
    have e : dbl W (fuel + 1) m w = cond (Nat.ble W w) m (dbl W fuel (m ||| (m <<< w)) (w + w)) := rfl
    rw [e]
    by_cases hb : W ≤ w
    · rw [show Nat.ble W w = true from Nat.ble_eq.mpr hb, cond]
      exact h1 k (by omega)
    · rw [show Nat.ble W w = false from by cases hc : Nat.ble W w with | false => rfl | true => exact absurd (Nat.ble_eq.mp hc) hb, cond]
      refine ih _ _ (by omega) (Nat.dvd_add hd hd) ?_ ?_ ?_ k hk
      · intro q hq
        rw [Nat.testBit_or, Nat.testBit_shiftLeft]
        by_cases hqw : q < w
        · rw [h1 q hqw, decide_eq_false (by omega)]; simp
        · rw [h2 q (by omega), decide_eq_true (by omega), h1 (q - w) (by omega)]
          obtain ⟨c, hc⟩ := hd
          have : (q - w) % p = q % p := by
            have : q = (q - w) + p * c := by omega
            rw [← Nat.add_mul_mod_self_left (q - w) p c, ← this]
          rw [this]; simp
      · intro q hq
        rw [Nat.testBit_or, Nat.testBit_shiftLeft, h2 q (by omega), h2 (q - w) (by omega)]; simp
      · rw [Nat.pow_succ] at hW
        rw [← Nat.two_mul, Nat.mul_comm 2 w, Nat.mul_assoc, Nat.mul_comm 2]; exact hW

theorem Tells.mul {W A B P N : Nat} {f g : Nat → Int} (h : Tells W A B f) (h' : Tells W P N g) :
    Tells W (((A &&& P) ||| (B &&& N)) % 2 ^ W) (((A &&& N) ||| (B &&& P)) % 2 ^ W) (fun k => f k * g k) := by
  intro k hk
  obtain ⟨a1, a2, a3⟩ := h k hk
  obtain ⟨b1, b2, b3⟩ := h' k hk
  rw [Nat.testBit_mod_two_pow, Nat.testBit_mod_two_pow, decide_eq_true hk]
  simp only [Nat.testBit_or, Nat.testBit_and, a1, a2, b1, b2]
  rcases a3 with a | a | a <;> rcases b3 with b | b | b <;> simp [a, b]

def prodL : List Nat → Nat
  | [] => 1
  | p :: L => p * prodL L

theorem prodL_odd : ∀ {L : List Nat}, prodL L % 2 = 1 → ∀ p, p ∈ L → p % 2 = 1
  | [], _, _, hp => by simp at hp
  | q :: L, h, p, hp => by
    rw [prodL] at h
    have hq : q % 2 = 1 ∧ prodL L % 2 = 1 := by
      rw [Nat.mul_mod] at h
      rcases Nat.mod_two_eq_zero_or_one q with h1 | h1 <;> rcases Nat.mod_two_eq_zero_or_one (prodL L) with h2 | h2 <;> rw [h1, h2] at h <;> simp at h
      exact ⟨h1, h2⟩
    rcases List.mem_cons.mp hp with rfl | hp
    · exact hq.1
    · exact prodL_odd hq.2 p hp

theorem masks_sound (D : Nat) (hD : D ≤ 10000) (c : Nat → Nat → Bool) : ∀ (L : List Nat) (A B : Nat) (f : Nat → Int), prodL L % 2 = 1 → (∀ p ∈ L, p ≤ 10000) → Tells D A B f → A < 2 ^ D → B < 2 ^ D → masks D L A B c = true →
    (∀ p ∈ L, Prime p) ∧ ∃ A' B', c A' B' = true ∧ Tells D A' B' (fun k => f k * G k (prodL L)) ∧ A' < 2 ^ D ∧ B' < 2 ^ D
  | [], A, B, f, _, _, hT, hA, hB, h => by
    refine ⟨fun p hp => by simp at hp, A, B, h, ?_, hA, hB⟩
    intro k hk
    simp only [prodL, Recip.G_one_right, Int.mul_one]
    exact hT k hk
  | p :: L, A, B, f, ho, hL, hT, hA, hB, h => by
    have hpl : p ≤ 10000 := hL p (by simp)
    have hpo := prodL_odd ho p (by simp)
    have hLo : prodL L % 2 = 1 := by
      rw [prodL, Nat.mul_mod, hpo, Nat.one_mul, Nat.mod_mod] at ho; exact ho
    rw [masks] at h
    obtain ⟨h1, h2⟩ := cond_true h
    have hp := isprime_sound (by omega) h1
    rw [force_eq] at h2
    obtain ⟨h3, h4⟩ := cond_true h2
    generalize nonres 60 p 2 = n at h3 h4
    have hn : G n p = -1 := by
      have := jacb_sound 64 _ _ _ hpo h3
      rw [show sg false = 1 from rfl, Int.one_mul] at this
      rw [← Recip.G_mod]; exact this
    obtain ⟨P, N, h5, hP, hN⟩ := gen_sound _ _ _ _ _ _ _ h4
    rw [force_eq, force_eq] at h5
    obtain ⟨h6, h7⟩ := cond_true h5
    have he : P ||| N = 2 ^ p - 2 := beq_true h6
    rw [force_eq, force_eq, force_eq, force_eq] at h7
    obtain ⟨hT1, hT2⟩ := prime_masks hp hpo hn (fun r hr => (hP r hr).resolve_left (by simp)) (fun r hr => (hN r hr).resolve_left (by simp)) he
    have hW : D ≤ p * 2 ^ 14 := by
      have := hp.1
      have : 2 * 2 ^ 14 ≤ p * 2 ^ 14 := Nat.mul_le_mul_right _ this
      omega
    have hTp : Tells D (dbl D 14 P p) (dbl D 14 N p) (fun k => G k p) := by
      intro k hk
      have hkp : k % p < p := Nat.mod_lt _ (by have := hp.1; omega)
      have t := hT1 (k % p) hkp
      have e1 := dbl_sound D p (fun r => P.testBit r) 14 P p (by omega) (Nat.dvd_refl p) (fun q hq => by rw [Nat.mod_eq_of_lt hq]) (fun q hq => (hT2 q hq).1) hW k hk
      have e2 := dbl_sound D p (fun r => N.testBit r) 14 N p (by omega) (Nat.dvd_refl p) (fun q hq => by rw [Nat.mod_eq_of_lt hq]) (fun q hq => (hT2 q hq).2) hW k hk
      simp only [Recip.G_mod] at t
      rw [e1, e2]
      exact t
    have ih := masks_sound D hD c L _ _ _ hLo (fun q hq => hL q (by simp [hq])) (hT.mul hTp) (Nat.mod_lt _ (Nat.two_pow_pos D)) (Nat.mod_lt _ (Nat.two_pow_pos D)) h7
    obtain ⟨ihp, A', B', hc, hT', hA', hB'⟩ := ih
    refine ⟨?_, A', B', hc, ?_, hA', hB'⟩
    · intro q hq
      rcases List.mem_cons.mp hq with rfl | hq
      · exact hp
      · exact ihp q hq
    · intro k hk
      have := hT' k hk
      simp only [prodL, Recip.G_mul_right hpo hLo]
      simp only [Int.mul_assoc] at this
      exact this
end Go.Proofs.Ytppdaagiofcmkaa.Chk
