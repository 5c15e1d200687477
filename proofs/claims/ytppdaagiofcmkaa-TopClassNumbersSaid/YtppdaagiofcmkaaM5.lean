import Derived.Test.YtppdaagiofcmkaaQx7
import Derived.Test.YtppdaagiofcmkaaM4
/- The loops of the law on class numbers, and the number of primes that divide a discriminant. -/
namespace Go.Proofs.Ytppdaagiofcmkaa.M
open Go.RowKit Go.Proofs.Ytppdaagiofcmkaa.Q Go.Proofs.YtppdaagiofcmkaaW.PrintWords Go.Proofs.YtppdaagiofcmkaaW.PrintLast Go.Proofs.YtppdaagiofcmkaaW.PrintMore
open Go.Proofs.Ytppdaagiofcmkaa.Recip (G neg S)
open Go.Proofs.Ytppdaagiofcmkaa.Chk (Nosq T Prime Says prodL)

theorem wide : Ev (fun k => galoistop_wideForms.f k) true :=
  Ev.of (fun k => galoistop_wideForms.mono k) (k := 60) (by decide +kernel)

/-! the primes of a discriminant -/
theorem Prime.dvd_mul {q a b : Nat} (hq : Prime q) (h : q ∣ a * b) : q ∣ a ∨ q ∣ b := by
  by_cases hg : Nat.gcd q a = 1
  · exact .inr (Nat.Coprime.dvd_of_dvd_mul_left hg h)
  · have h1 := Nat.gcd_dvd_left q a
    have h2 := Nat.gcd_dvd_right q a
    have h0 : 0 < Nat.gcd q a := Nat.gcd_pos_of_pos_left _ (by have := hq.1; omega)
    have := hq.2 _ (by omega) h1
    rw [this] at h2
    exact .inl h2

theorem Prime.dvd_prod {q : Nat} (hq : Prime q) : ∀ {L : List Nat}, (∀ p ∈ L, Prime p) → q ∣ prodL L → q ∈ L
  | [], _, h => by
    have := Nat.le_of_dvd (by simp [prodL]) h
    have := hq.1
    simp [prodL] at *
    omega
  | p :: L, hp, h => by
    rw [prodL] at h
    rcases Prime.dvd_mul hq h with h | h
    · have := (hp p (by simp)).2 q hq.1 h
      simp [this]
    · have := Prime.dvd_prod hq (fun p' hp' => hp p' (by simp [hp'])) h
      simp [this]

theorem Prime.dvd_two {q c : Nat} (hq : Prime q) : ∀ n, q ∣ 2 ^ n * c → q = 2 ∨ q ∣ c
  | 0, h => .inr (by simpa using h)
  | n + 1, h => by
    rw [Nat.pow_succ, Nat.mul_comm (2 ^ n) 2, Nat.mul_assoc] at h
    rcases Prime.dvd_mul hq h with h | h
    · have := Nat.le_of_dvd (by omega) h
      have := hq.1
      exact .inl (by omega)
    · exact Prime.dvd_two hq n h

open Classical in
/-- How many primes below n divide D. -/
noncomputable def np (D n : Nat) : Nat := S (fun q => if D % q = 0 ∧ Prime q then 1 else 0) n

theorem S_single (x : Nat) : ∀ n, S (fun q => if q = x then 1 else 0) n = if x < n then 1 else 0 := by
  intro n
  induction n with
  | zero => rfl
  | succ n ih => rw [Recip.S_succ, ih]; split <;> split <;> split <;> omega
theorem S_mem : ∀ (L : List Nat) (n : Nat), L.Nodup → (∀ x ∈ L, x < n) → S (fun q => if q ∈ L then 1 else 0) n = L.length
  | [], n, _, _ => by
    rw [Recip.S_congr (g := fun _ => 0) (fun q _ => by simp), Recip.S_const]; simp
  | x :: L, n, hn, hl => by
    rw [List.nodup_cons] at hn
    rw [Recip.S_congr (g := fun q => (if q = x then 1 else 0) + (if q ∈ L then 1 else 0)), Recip.S_add, S_single, if_pos (hl x (by simp)), S_mem L n hn.2 (fun y hy => hl y (by simp [hy])), List.length_cons]
    · omega
    · intro q _
      by_cases hq : q = x
      · subst hq; simp [hn.1]
      · simp [hq]

theorem two_prime : Prime 2 := ⟨by omega, fun q h1 h2 => by have := Nat.le_of_dvd (by omega) h2; omega⟩

open Classical in
theorem np_all {D m c : Nat} {L : List Nat} (hD : D = 2 ^ c * m) (hm : m % 2 = 1) (hL : ∀ p ∈ L, Prime p) (hn : L.Nodup) (hp : prodL L = m) : np D (D + 1) = L.length + (if c = 0 then 0 else 1) := by
  have hm0 : 0 < m := by omega
  have hpos : 0 < D := by rw [hD]; exact Nat.mul_pos (Nat.two_pow_pos c) hm0
  have hmem : ∀ q, (D % q = 0 ∧ Prime q) ↔ (q ∈ (if c = 0 then L else 2 :: L)) := by
    intro q
    constructor
    · intro ⟨h1, h2⟩
      have hd := Nat.dvd_of_mod_eq_zero h1
      rw [hD] at hd
      by_cases hc : c = 0
      · subst hc
        rw [if_pos rfl]
        rw [Nat.pow_zero, Nat.one_mul, ← hp] at hd
        exact Prime.dvd_prod h2 hL hd
      · rw [if_neg hc]
        rcases Prime.dvd_two h2 c hd with h | h
        · simp [h]
        · rw [← hp] at h
          have := Prime.dvd_prod h2 hL h
          simp [this]
    · intro h
      have key : q ∈ L → D % q = 0 ∧ Prime q := fun hq => by
        refine ⟨Nat.mod_eq_zero_of_dvd ?_, hL q hq⟩
        rw [hD, ← hp]
        exact Nat.dvd_trans (Chk.prodL_dvd hq) (Nat.dvd_mul_left _ _)
      split at h
      · exact key h
      · rename_i hc
        rcases List.mem_cons.mp h with rfl | h
        · refine ⟨Nat.mod_eq_zero_of_dvd ?_, two_prime⟩
          rw [hD]
          refine Nat.dvd_trans ?_ (Nat.dvd_mul_right _ _)
          exact Nat.dvd_of_pow_dvd (k := 1) (by omega) (Nat.pow_dvd_pow 2 (by omega))
        · exact key h
  have hlt : ∀ q, D % q = 0 ∧ Prime q → q < D + 1 := fun q h => by
    have := Nat.le_of_dvd hpos (Nat.dvd_of_mod_eq_zero h.1)
    omega
  unfold np
  rw [Recip.S_congr (g := fun q => if q ∈ (if c = 0 then L else 2 :: L) then 1 else 0) (fun q _ => by simp only [hmem q])]
  rw [S_mem _ _ ?_ (fun x hx => hlt x ((hmem x).mpr hx))]
  · split <;> simp
  · split
    · exact hn
    · rw [List.nodup_cons]
      refine ⟨fun h => ?_, hn⟩
      have := Chk.prodL_odd (L := L) (by rw [hp]; exact hm) 2 h
      omega

/-! the sum -/
def SI (D w : Nat) : Nat → Int
  | 0 => 0
  | k + 1 => SI D w k - (k : Int) * w * T D k

theorem SI_bound (D w : Nat) (hw : w ≤ 6) : ∀ k : Nat, k ≤ 10001 → -(60006 * (k : Int)) ≤ SI D w k ∧ SI D w k ≤ 60006 * (k : Int)
  | 0, _ => by simp [SI]
  | k + 1, h => by
    obtain ⟨h1, h2⟩ := SI_bound D w hw k (by omega)
    have h3 : (k : Int) * w ≤ 60006 ∧ 0 ≤ (k : Int) * w := by
      have : k * w ≤ 10001 * 6 := Nat.mul_le_mul (by omega) hw
      rw [← Int.natCast_mul]; omega
    rw [SI]
    rcases T_range D k with h | h | h <;> rw [h] <;> omega

theorem SI_sum (D w : Nat) : ∀ n, SI D w n = (w : Int) * (S (fun k => if T D k = -1 then k else 0) n : Nat) - (w : Int) * (S (fun k => if T D k = 1 then k else 0) n : Nat)
  | 0 => by simp [SI, Recip.S_zero]
  | n + 1 => by
    rw [SI, SI_sum D w n, Recip.S_succ, Recip.S_succ, Int.natCast_add, Int.natCast_add, Int.mul_add, Int.mul_add, Int.mul_comm (n : Int) w]
    rcases T_range D n with h | h | h <;> simp [h] <;> omega

theorem T_self {D : Nat} (hS : Shape D) : T D D = 0 := by
  unfold T
  rcases hS with ⟨h, _⟩ | ⟨h, _⟩
  · rw [if_pos h]
    unfold G
    rw [if_neg (by rw [Nat.gcd_self]; omega)]
  · rw [if_neg (by omega), if_pos (by omega)]

/-- The first loop. -/
theorem law_l0 {D : Nat} (hS : Shape D) (h3 : 3 ≤ D) (hD : D ≤ 10000) (w : Nat) (hw : w ≤ 6) (l : List S31) (v : Bool)
    (hend : Ev (fun k => galoistop_TopClassNumbers.l1 k (-(D : Int)) l (SI D w (D + 1)) 0 1 0) v) (d : Nat) : ∀ (i : Nat), 1 ≤ i → i + d = D + 1 →
    Ev (fun k => galoistop_TopClassNumbers.l0 k (-(D : Int)) l w (SI D w i) i) v := by
  induction d with
  | zero =>
    intro i h1 hi
    obtain rfl : i = D + 1 := by omega
    refine Ev.step (fun k => ?_) hend
    simp only [galoistop_TopClassNumbers.l0]
    rw [w32k (x := - -(D : Int)) (by omega) (by omega), if_neg (by omega)]
  | succ d ih =>
    intro i h1 hi
    have hrec := ih (i + 1) (by omega) (by omega)
    have hb := SI_bound D w hw (i + 1) (by omega)
    have hiw : i * w ≤ 10000 * 6 := Nat.mul_le_mul (by omega) hw
    have hiw' : (i : Int) * w = ((i * w : Nat) : Int) := (Int.natCast_mul i w).symm
    refine Ev.step (f := fun k => (quadratic_Kronecker.f k (-(D : Int)) i).bind fun bt159 => if bt159.2 = 0 then galoistop_TopClassNumbers.l0 k (-(D : Int)) l w (wrap64 (SI D w i - wrap64 (wrap64 ((i : Int) * w) * bt159.1))) (wrap64 ((i : Int) + 1)) else some false) (fun k => ?_) (Ev.bind (kron hS h3 hD i (by omega) (by omega)) ?_)
    · simp only [galoistop_TopClassNumbers.l0]
      rw [w32k (x := - -(D : Int)) (by omega) (by omega), if_pos (by omega)]
    · refine hrec.congr (fun k => ?_)
      simp only [if_true]
      have e1 : wrap64 ((i : Int) * w) = (i : Int) * w := w32k (by omega) (by omega)
      have e2 : wrap64 ((i : Int) * w * T D i) = (i : Int) * w * T D i := by
        clear e1
        rcases T_range D i with h | h | h <;> rw [h] <;> exact w32k (by omega) (by omega)
      have e3 : wrap64 (SI D w i - (i : Int) * w * T D i) = SI D w (i + 1) := by
        clear e1 e2
        rw [show SI D w i - (i : Int) * w * T D i = SI D w (i + 1) from rfl]
        exact w64 (by omega) (by omega)
      have e4 : wrap64 ((i : Int) + 1) = ((i + 1 : Nat) : Int) := by clear e1 e2 e3; exact w32k (by omega) (by omega)
      rw [e1, e2, e3, e4]

theorem rd_drop (l : List S31) (i : Nat) (h : i < l.length) : l.drop i = rd_T31 l i :: l.drop (i + 1) := by
  rw [List.drop_eq_getElem_cons h]
  unfold rd_T31
  simp [List.getD_eq_getElem?_getD, List.getElem?_eq_getElem h]

/-- The second loop. -/
theorem law_l1 {D : Nat} (s : Int) (l : List S31) (hl : l.length ≤ 10000) (v : Bool) (tot : Nat) (htot : tot ≤ 20000) (hend : Ev (fun k => galoistop_TopClassNumbers.l2 k (-(D : Int)) l s (tot : Nat) 1 2) v) (d : Nat) : ∀ (i x : Nat), i + d = l.length → x + 2 * cnt ambF (l.drop i) = tot →
    Ev (fun k => galoistop_TopClassNumbers.l1 k (-(D : Int)) l s x 1 i) v := by
  induction d with
  | zero =>
    intro i x hi hx
    rw [List.drop_of_length_le (by omega)] at hx
    obtain rfl : x = tot := by simpa [cnt] using hx
    refine Ev.step (fun k => ?_) hend
    simp only [galoistop_TopClassNumbers.l1]
    rw [if_neg (by omega)]
  | succ d ih =>
    intro i x hi hx
    have hlt : i < l.length := by omega
    rw [rd_drop l i hlt, cnt] at hx
    have r1 : ambF (rd_T31 l i) = true → Ev (fun k => galoistop_TopClassNumbers.l1 k (-(D : Int)) l s (wrap64 ((x : Int) + 2)) 1 (wrap64 ((i : Int) + 1))) v := fun ha => by
      rw [if_pos ha] at hx
      have := ih (i + 1) (x + 2) (by omega) (by omega)
      rw [show wrap64 ((x : Int) + 2) = ((x + 2 : Nat) : Int) from w32k (by omega) (by omega), show wrap64 ((i : Int) + 1) = ((i + 1 : Nat) : Int) from w32k (by omega) (by omega)]
      exact this
    have r2 : ambF (rd_T31 l i) = false → Ev (fun k => galoistop_TopClassNumbers.l1 k (-(D : Int)) l s x 1 (wrap64 ((i : Int) + 1))) v := fun ha => by
      rw [if_neg (by rw [ha]; simp)] at hx
      have := ih (i + 1) x (by omega) (by omega)
      rw [show wrap64 ((i : Int) + 1) = ((i + 1 : Nat) : Int) from w32k (by omega) (by omega)]
      exact this
    unfold ambF at r1 r2
    by_cases c1 : (rd_T31 l i).f1 = 0
    · refine Ev.step (fun k => ?_) (r1 (by rw [decide_eq_true c1]; rfl))
      simp only [galoistop_TopClassNumbers.l1]
      rw [if_pos (by omega), if_pos (by omega), if_pos c1]
    · by_cases c2 : (rd_T31 l i).f1 = (rd_T31 l i).f0
      · refine Ev.step (fun k => ?_) (r1 (by rw [decide_eq_true c2]; simp))
        simp only [galoistop_TopClassNumbers.l1]
        rw [if_pos (by omega), if_pos (by omega), if_neg c1, if_pos c2]
      · by_cases c3 : (rd_T31 l i).f0 = (rd_T31 l i).f2
        · refine Ev.step (fun k => ?_) (r1 (by rw [decide_eq_true c3]; simp))
          simp only [galoistop_TopClassNumbers.l1]
          rw [if_pos (by omega), if_pos (by omega), if_neg c1, if_neg c2, if_pos c3]
        · refine Ev.step (fun k => ?_) (r2 (by rw [decide_eq_false c1, decide_eq_false c2, decide_eq_false c3]; rfl))
          simp only [galoistop_TopClassNumbers.l1]
          rw [if_pos (by omega), if_pos (by omega), if_neg c1, if_neg c2, if_neg c3]

open Classical in
theorem np_succ (D q : Nat) : np D (q + 1) = np D q + (if D % q = 0 ∧ Prime q then 1 else 0) := Recip.S_succ _ _
open Classical in
theorem np_mono (D : Nat) {a b : Nat} (h : a ≤ b) : np D a ≤ np D b := by
  obtain ⟨d, rfl⟩ : ∃ d, b = a + d := ⟨b - a, by omega⟩
  induction d with
  | zero => exact Nat.le_refl _
  | succ d ih => rw [← Nat.add_assoc, np_succ]; have := ih (by omega); omega
theorem np_two (D : Nat) : np D 2 = 0 := by
  rw [np_succ, np_succ, show np D 0 = 0 from rfl, if_neg (fun h => by have := h.2.1; omega), if_neg (fun h => by have := h.2.1; omega)]

/-- The third loop, and what stands behind it. -/
theorem law_l2 {D : Nat} (h3 : 3 ≤ D) (hD : D ≤ 10000) (l : List S31) (hl : l.length ≤ 10000) (hnp : np D (D + 1) ≤ 20)
    (d : Nat) : ∀ (q : Nat), 2 ≤ q → q + d = D + 1 →
    Ev (fun k => galoistop_TopClassNumbers.l2 k (-(D : Int)) l (2 * (D : Int) * l.length) (2 ^ np D (D + 1) : Nat) (2 ^ np D q : Nat) q) true := by
  induction d with
  | zero =>
    intro q h2 hq
    obtain rfl : q = D + 1 := by omega
    refine Ev.step (f := fun k => (galoistop_wideForms.f k).bind fun t => some t) (fun k => ?_) (Ev.bind wide (Ev.now _))
    have e1 : wrap64 (-2 * -(D : Int)) = 2 * (D : Int) := by rw [w32k (by omega) (by omega)]; omega
    have e2 : wrap64 (2 * (D : Int) * l.length) = 2 * (D : Int) * l.length := by
      clear e1
      have : 2 * D * l.length ≤ 20000 * 10000 := Nat.mul_le_mul (by omega) hl
      have e : 2 * (D : Int) * l.length = ((2 * D * l.length : Nat) : Int) := by rw [Int.natCast_mul, Int.natCast_mul]; rfl
      rw [e]; exact w32k (by omega) (by omega)
    simp only [galoistop_TopClassNumbers.l2]
    rw [e1, e2, w32k (x := - -(D : Int)) (by clear e1 e2; omega) (by clear e1 e2; omega), if_neg (by clear e1 e2; omega), if_pos rfl, if_pos trivial]
  | succ d ih =>
    intro q h2 hq
    have hrec := ih (q + 1) (by omega) (by omega)
    have hbd : np D (q + 1) ≤ 20 := Nat.le_trans (np_mono D (by omega)) hnp
    have hp : 2 ^ np D (q + 1) ≤ 2 ^ 20 := Nat.pow_le_pow_right (by omega) hbd
    have en : wrap64 ((q : Int) + 1) = ((q + 1 : Nat) : Int) := w32k (by omega) (by omega)
    have em : wrap64 (- -(D : Int)) = (D : Int) := by clear en; rw [w32k (by omega) (by omega)]; omega
    have et : Int.tmod (-(D : Int)) (q : Int) = 0 ↔ D % q = 0 := by
      rw [Int.neg_tmod, tmod_nat]; clear en em; omega
    have cq : (q : Int) ≤ (D : Int) := by clear en em; omega
    have cq0 : ¬ (q : Int) = 0 := by clear en em; omega
    by_cases hd : D % q = 0
    · obtain ⟨b, hb, hiff⟩ := prime_f q (by omega)
      cases b with
      | true =>
        have e : np D (q + 1) = np D q + 1 := by rw [np_succ, if_pos ⟨hd, hiff.mp rfl⟩]
        rw [e, Nat.pow_succ] at hrec hp
        refine Ev.step (f := fun k => (galoisref04_IsPrime.f k q).bind fun t => if t = true then galoistop_TopClassNumbers.l2 k (-(D : Int)) l (2 * (D : Int) * l.length) (2 ^ np D (D + 1) : Nat) (wrap64 (((2 ^ np D q : Nat) : Int) * 2)) (wrap64 ((q : Int) + 1)) else galoistop_TopClassNumbers.l2 k (-(D : Int)) l (2 * (D : Int) * l.length) (2 ^ np D (D + 1) : Nat) (2 ^ np D q : Nat) (wrap64 ((q : Int) + 1))) (fun k => ?_) (Ev.bind hb ?_)
        · simp only [galoistop_TopClassNumbers.l2]
          rw [em, if_pos cq, if_neg cq0, if_pos (et.mpr hd)]
        · refine hrec.congr (fun k => ?_)
          rw [if_pos rfl, en, show wrap64 (((2 ^ np D q : Nat) : Int) * 2) = ((2 ^ np D q * 2 : Nat) : Int) from by rw [Int.natCast_mul]; clear en em; exact w32k (by omega) (by omega)]
      | false =>
        have e : np D (q + 1) = np D q := by rw [np_succ, if_neg (fun h => by have := hiff.mpr h.2; simp at this)]; rfl
        rw [e] at hrec
        refine Ev.step (f := fun k => (galoisref04_IsPrime.f k q).bind fun t => if t = true then galoistop_TopClassNumbers.l2 k (-(D : Int)) l (2 * (D : Int) * l.length) (2 ^ np D (D + 1) : Nat) (wrap64 (((2 ^ np D q : Nat) : Int) * 2)) (wrap64 ((q : Int) + 1)) else galoistop_TopClassNumbers.l2 k (-(D : Int)) l (2 * (D : Int) * l.length) (2 ^ np D (D + 1) : Nat) (2 ^ np D q : Nat) (wrap64 ((q : Int) + 1))) (fun k => ?_) (Ev.bind hb ?_)
        · simp only [galoistop_TopClassNumbers.l2]
          rw [em, if_pos cq, if_neg cq0, if_pos (et.mpr hd)]
        · refine hrec.congr (fun k => ?_)
          rw [if_neg (by simp), en]
    · have e : np D (q + 1) = np D q := by rw [np_succ, if_neg (fun h => hd h.1)]; rfl
      rw [e] at hrec
      refine Ev.step (fun k => ?_) hrec
      simp only [galoistop_TopClassNumbers.l2]
      rw [em, if_pos cq, if_neg cq0, if_neg (fun h => hd (et.mp h)), en]

end Go.Proofs.Ytppdaagiofcmkaa.M
