import Derived.Test.YtppdaagiofcmkaaChk1
/- The weighted sums of bits, the factors, and what the whole check says. -/
namespace Go.Proofs.Ytppdaagiofcmkaa.Chk
open Go.Proofs.Ytppdaagiofcmkaa.Recip (G S)

/-- the bits of b in lanes of 32 -/
def lanes (b : Nat → Bool) (n : Nat) : Nat := S (fun i => if b i then 2 ^ (32 * i) else 0) n

theorem lanes_lt (b : Nat → Bool) (n : Nat) : lanes b n < 2 ^ (32 * n) := by
  induction n with
  | zero => simp [lanes, Recip.S_zero]
  | succ n ih =>
    unfold lanes at ih ⊢
    rw [Recip.S_succ]
    have h1 : 2 ^ (32 * (n + 1)) = 4294967296 * 2 ^ (32 * n) := by
      rw [Nat.mul_add, Nat.pow_add, Nat.mul_comm]
    have h2 := Nat.two_pow_pos (32 * n)
    rw [h1]
    split <;> omega

theorem lanes_bit (b : Nat → Bool) (n : Nat) : ∀ j, (lanes b n).testBit j = (decide (j % 32 = 0) && decide (j / 32 < n) && b (j / 32)) := by
  induction n with
  | zero => intro j; simp [lanes, Recip.S_zero]
  | succ n ih =>
    intro j
    have hlt := lanes_lt b n
    have e : lanes b (n + 1) = lanes b n + (if b n then 2 ^ (32 * n) else 0) := Recip.S_succ _ _
    rw [e]
    by_cases hb : b n = true
    · rw [if_pos hb, Nat.add_comm, show 2 ^ (32 * n) + lanes b n = 2 ^ (32 * n) * 1 + lanes b n from by omega, Nat.testBit_two_pow_mul_add _ hlt]
      by_cases hj : j < 32 * n
      · rw [if_pos hj, ih j]
        have : j / 32 < n := by omega
        simp [this, show j / 32 < n + 1 from by omega]
      · rw [if_neg hj]
        by_cases he : j = 32 * n
        · subst he
          simp [hb]
        · by_cases hj2 : j / 32 < n + 1
          · have hm : ¬ j % 32 = 0 := by omega
            rw [decide_eq_false hm]
            have : (1 : Nat).testBit (j - 32 * n) = false := by
              rw [show (1 : Nat) = 2 ^ 0 from rfl, Nat.testBit_two_pow]; exact decide_eq_false (by omega)
            simp [this]
          · have : (1 : Nat).testBit (j - 32 * n) = false := by
              rw [show (1 : Nat) = 2 ^ 0 from rfl, Nat.testBit_two_pow]; exact decide_eq_false (by omega)
            simp [this, hj2]
    · rw [if_neg hb, Nat.add_zero, ih j]
      by_cases hj : j / 32 = n
      · rw [hj]; simp [hb]
      · have : (j / 32 < n + 1) ↔ (j / 32 < n) := by omega
        simp [this]

theorem lanes_mod (b : Nat → Bool) (n : Nat) : ∃ q, lanes b n = S (fun i => if b i then 1 else 0) n + 4294967295 * S (fun i => if b i then i else 0) n + 4294967295 * 4294967295 * q := by
  have hp : ∀ n : Nat, ∃ q, 2 ^ (32 * n) = 1 + 4294967295 * n + 4294967295 * 4294967295 * q := by
    intro n
    induction n with
    | zero => exact ⟨0, rfl⟩
    | succ n ih =>
      obtain ⟨q, hq⟩ := ih
      refine ⟨n + q + 4294967295 * q, ?_⟩
      rw [Nat.mul_add, Nat.pow_add, hq]
      omega
  induction n with
  | zero => exact ⟨0, rfl⟩
  | succ n ih =>
    obtain ⟨q, hq⟩ := ih
    unfold lanes at hq ⊢
    rw [Recip.S_succ, Recip.S_succ, Recip.S_succ, hq]
    cases b n with
    | false => exact ⟨q, by simp⟩
    | true =>
      obtain ⟨r, hr⟩ := hp n
      refine ⟨q + r, ?_⟩
      simp only [if_true]
      rw [hr]
      omega

theorem S_le (f g : Nat → Nat) (n : Nat) (h : ∀ i, i < n → f i ≤ g i) : S f n ≤ S g n := by
  induction n with
  | zero => exact Nat.le_refl _
  | succ n ih =>
    rw [Recip.S_succ, Recip.S_succ]
    exact Nat.add_le_add (ih (fun i hi => h i (by omega))) (h n (by omega))

theorem decode {c w q : Nat} (hc : c < 4294967295) (hw : w < 4294967295) :
    (c + 4294967295 * w + 4294967295 * 4294967295 * q) % (BB * BB) / BB = w ∧ (c + 4294967295 * w + 4294967295 * 4294967295 * q) % (BB * BB) % BB = c := by
  have e : (c + 4294967295 * w + 4294967295 * 4294967295 * q) % (BB * BB) = c + 4294967295 * w := by
    unfold BB
    rw [Nat.add_mul_mod_self_left, Nat.mod_eq_of_lt]
    have := Nat.mul_le_mul_left 4294967295 (show w ≤ 4294967294 from by omega)
    omega
  rw [e]
  unfold BB
  omega

theorem S_regroup (f : Nat → Nat) (n : Nat) : S f (32 * n) = S (fun s => S (fun i => f (32 * i + s)) n) 32 := by
  induction n with
  | zero => rw [Recip.S_congr (h := 32) (g := fun _ => 0) (fun s _ => Recip.S_zero _), Recip.S_const, Nat.mul_zero]; exact Recip.S_zero _
  | succ n ih =>
    have e : ∀ m, S f (32 * n + m) = S f (32 * n) + S (fun s => f (32 * n + s)) m := by
      intro m
      induction m with
      | zero => rfl
      | succ m ihm => rw [← Nat.add_assoc, Recip.S_succ, ihm, Recip.S_succ, Nat.add_assoc]
    rw [Nat.mul_add, Nat.mul_one, e 32, ih, ← Recip.S_add]
    exact Recip.S_congr (fun s _ => (Recip.S_succ _ _).symm)

theorem wt_sound {M m : Nat} (hM : M = lanes (fun _ => true) 313) : wt M m = S (fun k => if m.testBit k then k else 0) 10016 := by
  rw [show 10016 = 32 * 313 from rfl, S_regroup]
  unfold wt
  rw [fsum_S]
  apply Recip.S_congr
  intro s hs
  rw [force_eq]
  have e : (m >>> s) &&& M = lanes (fun i => m.testBit (32 * i + s)) 313 := by
    apply Nat.eq_of_testBit_eq
    intro j
    rw [Nat.testBit_and, Nat.testBit_shiftRight, hM, lanes_bit, lanes_bit]
    by_cases hj : j % 32 = 0
    · rw [decide_eq_true hj, show 32 * (j / 32) + s = s + j from by omega]
      cases m.testBit (s + j) <;> simp
    · rw [decide_eq_false hj]; simp
  show 32 * ((((m >>> s) &&& M) % (BB * BB)) / BB) + s * ((((m >>> s) &&& M) % (BB * BB)) % BB) = _
  rw [e]
  obtain ⟨q, hq⟩ := lanes_mod (fun i => m.testBit (32 * i + s)) 313
  rw [hq]
  have h1 : S (fun i => if m.testBit (32 * i + s) then 1 else 0) 313 ≤ S (fun _ => 1) 313 := S_le _ _ _ (fun i _ => by split <;> omega)
  have h2 : S (fun i => if m.testBit (32 * i + s) then i else 0) 313 ≤ S (fun _ => 313) 313 := S_le _ _ _ (fun i hi => by split <;> omega)
  rw [Recip.S_const] at h1 h2
  obtain ⟨d1, d2⟩ := decode (q := q) (show S (fun i => if m.testBit (32 * i + s) then 1 else 0) 313 < 4294967295 from by omega) (show S (fun i => if m.testBit (32 * i + s) then i else 0) 313 < 4294967295 from by omega)
  rw [d1, d2, ← Recip.S_mul, ← Recip.S_mul, ← Recip.S_add]
  apply Recip.S_congr
  intro i _
  split <;> omega

theorem S_ext (f : Nat → Nat) (n m : Nat) (h : n ≤ m) (hz : ∀ i, n ≤ i → f i = 0) : S f m = S f n := by
  obtain ⟨d, rfl⟩ : ∃ d, m = n + d := ⟨m - n, by omega⟩
  induction d with
  | zero => rfl
  | succ d ih => rw [← Nat.add_assoc, Recip.S_succ, ih (by omega), hz _ (by omega)]; omega

theorem wt_sum {M m D : Nat} (hM : M = lanes (fun _ => true) 313) (hD : D ≤ 10000) (hm : m < 2 ^ D) (b : Nat → Bool) (hb : ∀ k, k < D → m.testBit k = b k) :
    wt M m = S (fun k => if b k then k else 0) D := by
  rw [wt_sound hM, S_ext _ D 10016 (by omega)]
  · exact Recip.S_congr (fun k hk => by rw [hb k hk])
  · intro k hk
    rw [Nat.testBit_lt_two_pow (Nat.lt_of_lt_of_le hm (Nat.pow_le_pow_right (by omega) hk))]; simp

/-- No square divides. -/
def Nosq (m : Nat) : Prop := ∀ q, 2 ≤ q → ¬ q * q ∣ m

theorem factor_sound (fuel : Nat) : ∀ (m p : Nat) (L : List Nat), 0 < m → 2 ≤ p → match factor fuel m p L with | none => ∃ q, 2 ≤ q ∧ q * q ∣ m | some L' => prodL L' = m * prodL L := by
  induction fuel with
  | zero => intro m p L _ _; rfl
  | succ fuel ih =>
    intro m p L hm hp
    have e : factor (fuel + 1) m p L = cond (Nat.blt m (p * p)) (some (cond (Nat.blt 1 m) (m :: L) L)) (cond (Nat.beq (m % p) 0) (cond (Nat.beq (m / p % p) 0) none (factor fuel (m / p) (p + 2) (p :: L))) (factor fuel m (p + 2) L)) := rfl
    rw [e]
    cases h1 : Nat.blt m (p * p) with
    | true =>
      cases h2 : Nat.blt 1 m with
      | true => simp [prodL]
      | false =>
        have : ¬ 1 < m := fun hh => by rw [Nat.blt_eq.mpr hh] at h2; simp at h2
        have : m = 1 := by omega
        subst this; simp
    | false =>
      rw [beq_dec, beq_dec]
      by_cases h2 : m % p = 0
      · rw [decide_eq_true h2]
        have hd : p ∣ m := Nat.dvd_of_mod_eq_zero h2
        by_cases h3 : m / p % p = 0
        · rw [decide_eq_true h3]
          refine ⟨p, hp, ?_⟩
          obtain ⟨c, hc⟩ := Nat.dvd_of_mod_eq_zero h3
          exact ⟨c, by rw [Nat.mul_assoc, ← hc, Nat.mul_div_cancel' hd]⟩
        · rw [decide_eq_false h3]
          have := ih (m / p) (p + 2) (p :: L) (Nat.div_pos (Nat.le_of_dvd hm hd) (by omega)) (by omega)
          simp only [cond]
          cases hf : factor fuel (m / p) (p + 2) (p :: L) with
          | none =>
            rw [hf] at this
            obtain ⟨q, hq, hqd⟩ := this
            exact ⟨q, hq, Nat.dvd_trans hqd (Nat.div_dvd_of_dvd hd)⟩
          | some L' =>
            rw [hf] at this
            simp only at this ⊢
            rw [this, prodL, ← Nat.mul_assoc, Nat.div_mul_cancel hd]
      · rw [decide_eq_false h2]
        exact ih m (p + 2) L hm (by omega)

theorem prodL_dvd : ∀ {L : List Nat} {p : Nat}, p ∈ L → p ∣ prodL L
  | [], _, h => by simp at h
  | q :: L, p, h => by
    rcases List.mem_cons.mp h with rfl | h
    · exact Nat.dvd_mul_right _ _
    · exact Nat.dvd_trans (prodL_dvd h) (Nat.dvd_mul_left _ _)

theorem prodL_nodup : ∀ {L : List Nat}, (∀ p ∈ L, 2 ≤ p) → Nosq (prodL L) → L.Nodup
  | [], _, _ => List.nodup_nil
  | p :: L, h2, h => by
    rw [List.nodup_cons]
    refine ⟨fun hp => ?_, prodL_nodup (fun q hq => h2 q (by simp [hq])) (fun q hq hd => h q hq (Nat.dvd_trans hd (Nat.dvd_mul_left _ _)))⟩
    obtain ⟨c, hc⟩ := prodL_dvd hp
    exact h p (h2 p (by simp)) ⟨c, by rw [prodL, hc, Nat.mul_assoc]⟩

/-- The character of -D. -/
def T (D k : Nat) : Int :=
  if D % 4 = 3 then G k D
  else if k % 2 = 0 then 0
  else if D % 16 = 4 then (if k % 4 = 1 then 1 else -1) * G k (D / 4)
  else if D % 32 = 8 then (if k % 8 = 1 ∨ k % 8 = 3 then 1 else -1) * G k (D / 8)
  else (if k % 8 = 1 ∨ k % 8 = 7 then 1 else -1) * G k (D / 8)

/-- What the check says of D, m being its odd part. -/
def Says (D m n2 : Nat) : Prop := ∃ L : List Nat, (∀ p ∈ L, Prime p ∧ p % 2 = 1) ∧ L.Nodup ∧ prodL L = m ∧ 2 * (hf D % 65536) = 2 ^ (L.length + n2) ∧
  units D * S (fun k => if T D k = -1 then k else 0) D = 2 * D * (hf D / 65536) + units D * S (fun k => if T D k = 1 then k else 0) D

theorem chk1_sound {M D m n2 A B : Nat} (f : Nat → Int) (hM : M = lanes (fun _ => true) 313) (hD : D ≤ 10000) (hmD : m ≤ D) (hm : m % 2 = 1) (hsq : Nosq m) (hT : Tells D A B f) (hA : A < 2 ^ D) (hB : B < 2 ^ D)
    (hf : ∀ k, k < D → T D k = f k * G k m) (h : chk1 M D m n2 A B = true) : Says D m n2 := by
  unfold chk1 at h
  have hfac := factor_sound 60 m 3 [] (by omega) (by omega)
  cases hL : factor 60 m 3 [] with
  | none =>
    rw [hL] at hfac
    obtain ⟨q, hq, hd⟩ := hfac
    exact absurd hd (hsq q hq)
  | some L =>
    rw [hL] at hfac h
    simp only [prodL, Nat.mul_one] at hfac h
    rw [force_eq] at h
    have hle : ∀ p ∈ L, p ≤ 10000 := fun p hp => by
      have := Nat.le_of_dvd (by omega) (prodL_dvd hp)
      omega
    obtain ⟨hpr, A', B', hfin, hT', hA', hB'⟩ := masks_sound D hD _ L A B f (by omega) hle hT hA hB h
    unfold fin at hfin
    obtain ⟨h1, h2⟩ := cond_true hfin
    have h3 := beq_true h1
    have h4 := beq_true h2
    refine ⟨L, fun p hp => ⟨hpr p hp, prodL_odd (by omega) p hp⟩, prodL_nodup (fun p hp => (hpr p hp).1) (by rw [hfac]; exact hsq), hfac, h3, ?_⟩
    have wA := wt_sum hM hD hA' (fun k => decide (T D k = 1)) (fun k hk => by rw [(hT' k hk).1, hf k hk, hfac])
    have wB := wt_sum hM hD hB' (fun k => decide (T D k = -1)) (fun k hk => by rw [(hT' k hk).2.1, hf k hk, hfac])
    simp only [decide_eq_true_eq] at wA wB
    rw [← wA, ← wB]
    exact h4
end Go.Proofs.Ytppdaagiofcmkaa.Chk
