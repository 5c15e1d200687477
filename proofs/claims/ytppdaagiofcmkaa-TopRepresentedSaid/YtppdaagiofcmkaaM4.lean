import Derived.Test.YtppdaagiofcmkaaM3
/- How many reduced forms there are, and how many of them are ambiguous, as the check counts them. -/
namespace Go.Proofs.Ytppdaagiofcmkaa.M
open Go.RowKit Go.Proofs.Ytppdaagiofcmkaa.Q Go.Proofs.YtppdaagiofcmkaaW.PrintWords Go.Proofs.YtppdaagiofcmkaaW.PrintLast Go.Proofs.YtppdaagiofcmkaaW.PrintMore
open Go.Proofs.Ytppdaagiofcmkaa.Recip (G neg S)

/-- What the law asks of a form. -/
def ambF (x : S31) : Bool := decide (x.f1 = 0) || decide (x.f1 = x.f0) || decide (x.f0 = x.f2)
/-- How many have a property. -/
def cnt (p : S31 → Bool) : List S31 → Nat
  | [] => 0
  | x :: l => (if p x = true then 1 else 0) + cnt p l
theorem cnt_append (p : S31 → Bool) : ∀ xs ys, cnt p (xs ++ ys) = cnt p xs + cnt p ys
  | [], ys => by simp [cnt]
  | x :: xs, ys => by rw [List.cons_append, cnt, cnt, cnt_append p xs ys]; omega
theorem cnt_len : ∀ l : List S31, cnt (fun _ => true) l = l.length
  | [] => rfl
  | x :: l => by rw [cnt, cnt_len l, List.length_cons, if_pos rfl]; omega

def formI (D a : Nat) (b : Int) : S31 := ⟨a, b, (cN D a b.natAbs : Nat)⟩
theorem rowF_cnt (p : S31 → Bool) (D a : Nat) : ∀ r, cnt p (rowF D a r) = S (fun t => if (okI D a ((a : Int) - t) && p (formI D a ((a : Int) - t))) = true then 1 else 0) r := by
  intro r
  induction r with
  | zero => rfl
  | succ r ih =>
    rw [Recip.S_succ, rowF, cnt_append, ih, Nat.add_comm]
    congr 1
    by_cases h : okI D a ((a : Int) - r) = true
    · rw [if_pos h, h, Bool.true_and, cnt, cnt, Nat.add_zero]
      rfl
    · rw [if_neg h, show okI D a ((a : Int) - r) = false from by simpa using h, Bool.false_and, cnt]
      rfl

theorem S_shift (f : Nat → Nat) (n : Nat) : S f (n + 1) = f 0 + S (fun i => f (i + 1)) n := by
  induction n with
  | zero => rw [Recip.S_succ, Recip.S_zero, Recip.S_zero]; omega
  | succ n ih => rw [Recip.S_succ, ih, Recip.S_succ]; omega
theorem S_rev (f : Nat → Nat) (n : Nat) : S (fun t => f (n - t)) (n + 1) = S f (n + 1) := by
  induction n with
  | zero => rfl
  | succ n ih =>
    rw [S_shift, Recip.S_succ f (n + 1), ← ih, Nat.sub_zero, Nat.add_comm]
    congr 1
    apply Recip.S_congr
    intro i _
    congr 1; omega
theorem S_split (f : Nat → Nat) (n m : Nat) : S f (n + m) = S f n + S (fun i => f (n + i)) m := by
  induction m with
  | zero => rfl
  | succ m ih => rw [← Nat.add_assoc, Recip.S_succ, ih, Recip.S_succ]; omega

/-- A sum over b from -a to a, by absolute values. -/
theorem S_sym (f : Int → Nat) (a : Nat) : S (fun t => f ((a : Int) - (t : Nat))) (2 * a + 1) = S (fun b => f b + (if b = 0 then 0 else f (-(b : Int)))) (a + 1) := by
  rw [show 2 * a + 1 = (a + 1) + a from by omega, S_split, Recip.S_add]
  have e1 : S (fun t => f ((a : Int) - (t : Nat))) (a + 1) = S (fun b => f (b : Nat)) (a + 1) := by
    rw [← S_rev (fun b => f (b : Nat)) a]
    apply Recip.S_congr
    intro t ht
    congr 1; omega
  have e2 : S (fun i => f ((a : Int) - ((a + 1 + i : Nat) : Int))) a = S (fun b => if b = 0 then 0 else f (-((b : Nat) : Int))) (a + 1) := by
    rw [S_shift]
    simp only [if_true, Nat.zero_add]
    apply Recip.S_congr
    intro i _
    rw [if_neg (by omega)]
    congr 1; omega
  rw [e1, e2]

theorem amb_iff (D a n : Nat) : Chk.amb D a n = (decide (n = 0) || decide (a = n) || decide (cN D a n = a)) := by
  unfold Chk.amb
  show cond (Nat.beq n 0) true (cond (Nat.beq a n) true (Nat.beq (cN D a n) a)) = _
  rw [Chk.beq_dec, Chk.beq_dec, Chk.beq_dec]
  cases decide (n = 0) <;> cases decide (a = n) <;> rfl

theorem ok_iff (D a n : Nat) : Chk.ok D a n = (Chk.good D a n && decide (n ≤ a)) := by
  unfold Chk.ok
  cases h : Chk.good D a n with
  | false => simp
  | true => rw [decide_eq_true (Chk.good_parity h)]; simp

theorem le_of_good {D a n : Nat} (h : Chk.good D a n = true) : a ≤ cN D a n := by
  rw [good_iff] at h
  simp only [Bool.and_eq_true, decide_eq_true_eq] at h
  exact h.1.2

theorem okI_pos {D a n : Nat} (hn : n ≤ a) : okI D a (n : Int) = Chk.good D a n := by
  unfold okI
  rw [decide_eq_true (show (0 : Int) ≤ (n : Int) from by omega), Int.natAbs_natCast, decide_eq_true hn]
  simp
theorem okI_neg {D a n : Nat} (hn : n ≤ a) (h0 : n ≠ 0) : okI D a (-(n : Int)) = (Chk.good D a n && (decide (n < a) && decide (a < cN D a n))) := by
  unfold okI
  rw [decide_eq_false (show ¬ (0 : Int) ≤ -(n : Int) from by omega), Int.natAbs_neg, Int.natAbs_natCast, decide_eq_true hn]
  simp
theorem ambF_pos (D a n : Nat) : ambF (formI D a (n : Int)) = (decide (n = 0) || decide (a = n) || decide (cN D a n = a)) := by
  show (decide ((n : Int) = 0) || decide ((n : Int) = (a : Int)) || decide ((a : Int) = (cN D a (n : Int).natAbs : Nat))) = _
  rw [Int.natAbs_natCast, Bool.eq_iff_iff]
  simp
  omega
theorem ambF_neg {D a n : Nat} (h0 : n ≠ 0) : ambF (formI D a (-(n : Int))) = decide (cN D a n = a) := by
  show (decide (-(n : Int) = 0) || decide (-(n : Int) = (a : Int)) || decide ((a : Int) = (cN D a (-(n : Int)).natAbs : Nat))) = _
  rw [Int.natAbs_neg, Int.natAbs_natCast, Bool.eq_iff_iff]
  simp
  omega
theorem ok_le {D a n : Nat} (hn : n ≤ a) : Chk.ok D a n = Chk.good D a n := by rw [ok_iff, decide_eq_true hn, Bool.and_true]

theorem row_len (D a : Nat) : cnt (fun _ => true) (rowF D a (2 * a + 1)) = S (Chk.big D a) (a + 1) := by
  rw [rowF_cnt, S_sym (fun b => if (okI D a b && true) = true then 1 else 0)]
  apply Recip.S_congr
  intro n hn
  have hn' : n ≤ a := by omega
  unfold Chk.big
  rw [ok_le hn', amb_iff, okI_pos hn']
  by_cases h0 : n = 0
  · subst h0
    cases Chk.good D a 0 <;> simp
  · rw [if_neg h0, okI_neg hn' h0]
    cases hg : Chk.good D a n with
    | false => simp
    | true =>
      have hc := le_of_good hg
      rw [decide_eq_false h0]
      by_cases h1 : a = n
      · rw [decide_eq_true h1, decide_eq_false (show ¬ n < a from by omega)]; simp
      · rw [decide_eq_false h1, decide_eq_true (show n < a from by omega)]
        by_cases h2 : cN D a n = a
        · rw [decide_eq_true h2, decide_eq_false (show ¬ a < cN D a n from by omega)]; simp
        · rw [decide_eq_false h2, decide_eq_true (show a < cN D a n from by omega)]; simp

theorem row_amb (D a : Nat) : cnt ambF (rowF D a (2 * a + 1)) = S (Chk.sml D a) (a + 1) := by
  rw [rowF_cnt, S_sym (fun b => if (okI D a b && ambF (formI D a b)) = true then 1 else 0)]
  apply Recip.S_congr
  intro n hn
  have hn' : n ≤ a := by omega
  unfold Chk.sml
  rw [ok_le hn', amb_iff, okI_pos hn', ambF_pos]
  by_cases h0 : n = 0
  · subst h0
    cases Chk.good D a 0 <;> simp
  · rw [if_neg h0, okI_neg hn' h0, ambF_neg h0]
    cases hg : Chk.good D a n with
    | false => simp
    | true =>
      have hc := le_of_good hg
      by_cases h2 : cN D a n = a
      · rw [decide_eq_true h2, decide_eq_false (show ¬ a < cN D a n from by omega)]; simp
      · rw [decide_eq_false h2, decide_eq_false h0]; simp

theorem all_cnt (p : S31 → Bool) (D : Nat) (hD : D ≤ 10000) (f : Nat → Nat) (hf : ∀ a, 1 ≤ a → cnt p (rowF D a (2 * a + 1)) = f a) : ∀ t a, 1 ≤ a → cnt p (allF D t a) = S (fun i => if 3 * ((a + i) * (a + i)) ≤ D then f (a + i) else 0) t
  | 0, _, _ => rfl
  | t + 1, a, ha => by
    rw [allF, S_shift]
    simp only [Nat.add_zero]
    by_cases h : 3 * (a * a) ≤ D
    · rw [if_pos h, if_pos h, cnt_append, hf a ha, all_cnt p D hD f hf t (a + 1) (by omega)]
      congr 1
      apply Recip.S_congr
      intro i _
      rw [show a + 1 + i = a + (i + 1) from by omega]
    · rw [if_neg h, if_neg h, Nat.zero_add]
      have : S (fun i => if 3 * ((a + (i + 1)) * (a + (i + 1))) ≤ D then f (a + (i + 1)) else 0) t = S (fun _ => 0) t := by
        apply Recip.S_congr
        intro i _
        rw [if_neg]
        have := Nat.mul_le_mul (show a ≤ a + (i + 1) from by omega) (show a ≤ a + (i + 1) from by omega)
        omega
      rw [this, Recip.S_const]; rfl

theorem len_formsOf {D : Nat} (hD : D ≤ 10000) : (formsOf D).length = Chk.Hs D := by
  rw [← cnt_len, formsOf, all_cnt _ D hD (fun a => S (Chk.big D a) (a + 1)) (fun a _ => row_len D a) 58 1 (by omega)]
  unfold Chk.Hs
  apply Recip.S_congr
  intro i _
  rw [show 1 + i = i + 1 from by omega]

theorem amb_formsOf {D : Nat} (hD : D ≤ 10000) : cnt ambF (formsOf D) = Chk.As D := by
  rw [formsOf, all_cnt _ D hD (fun a => S (Chk.sml D a) (a + 1)) (fun a _ => row_amb D a) 58 1 (by omega)]
  unfold Chk.As
  apply Recip.S_congr
  intro i _
  rw [show 1 + i = i + 1 from by omega]

end Go.Proofs.Ytppdaagiofcmkaa.M
