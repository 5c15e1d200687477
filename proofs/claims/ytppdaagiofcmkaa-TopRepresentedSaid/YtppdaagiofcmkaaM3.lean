import Derived.Test.YtppdaagiofcmkaaM2
/- The reduced forms that the program lists, and how many they are. -/
namespace Go.Proofs.Ytppdaagiofcmkaa.M
open Go.RowKit Go.Proofs.Ytppdaagiofcmkaa.Q Go.Proofs.YtppdaagiofcmkaaW.PrintWords Go.Proofs.YtppdaagiofcmkaaW.PrintLast Go.Proofs.YtppdaagiofcmkaaW.PrintMore
open Go.Proofs.Ytppdaagiofcmkaa.Recip (G neg S)
open Go.Proofs.Ytppdaagiofcmkaa.Chk (Nosq T Prime)

/-- The third coefficient. -/
def cN (D a n : Nat) : Nat := (n * n + D) / (4 * a)
def okI (D a : Nat) (b : Int) : Bool := Chk.good D a b.natAbs && decide (b.natAbs ≤ a) && (decide (0 ≤ b) || (decide (b.natAbs < a) && decide (a < cN D a b.natAbs)))
def rowF (D a : Nat) : Nat → List S31
  | 0 => []
  | r + 1 => (if okI D a ((a : Int) - r) = true then [⟨a, (a : Int) - r, cN D a ((a : Int) - r).natAbs⟩] else []) ++ rowF D a r
def allF (D : Nat) : Nat → Nat → List S31
  | 0, _ => []
  | t + 1, a => if 3 * (a * a) ≤ D then rowF D a (2 * a + 1) ++ allF D t (a + 1) else []

theorem w_nat (n : Nat) (h : n ≤ 1000000) : wrap64 (n : Int) = n := w32k (by omega) (by omega)
theorem sq_abs (b : Int) : b * b = ((b.natAbs * b.natAbs : Nat) : Int) := by rw [Int.natCast_mul]; exact (Int.natAbs_mul_self' b).symm

theorem num_w {D : Nat} {b : Int} (hD : D ≤ 10000) (hb : b.natAbs ≤ 60) : wrap64 (wrap64 (b * b) - -(D : Int)) = ((b.natAbs * b.natAbs + D : Nat) : Int) := by
  have h1 : b.natAbs * b.natAbs ≤ 60 * 60 := Nat.mul_le_mul hb hb
  rw [sq_abs, w_nat _ (by omega), w32k (by omega) (by omega)]
  omega
theorem den_w {a : Nat} (ha : a ≤ 60) : wrap64 (4 * (a : Int)) = ((4 * a : Nat) : Int) := by rw [w32k (by omega) (by omega)]; omega
theorem cN_le {D a n : Nat} (hD : D ≤ 10000) (hn : n ≤ 60) : cN D a n ≤ 20000 := by
  have h1 : n * n ≤ 60 * 60 := Nat.mul_le_mul hn hn
  have h2 : cN D a n ≤ n * n + D := Nat.div_le_self _ _
  omega

/-- One round of the inner loop. -/
theorem f_l1 {D a : Nat} {b : Int} (hD : D ≤ 10000) (ha : a ≤ 60) (h1 : 1 ≤ a) (hb : b.natAbs ≤ 60) (xs : List S31) (k : Nat) :
    quadratic_Forms.l1 (k + 1) (-(D : Int)) xs a b = if b ≤ a then (if (b.natAbs * b.natAbs + D) % (4 * a) = 0 then
      (quadratic_reduced.f a b (cN D a b.natAbs : Nat)).bind fun t128 => if t128 = true then (quadratic_gcd.f k a b).bind fun t129 => (quadratic_gcd.f k t129 (cN D a b.natAbs : Nat)).bind fun t130 => if t130 = 1 then (if xs.length < 5864062014805 then quadratic_Forms.l1 k (-(D : Int)) (xs ++ [⟨a, b, (cN D a b.natAbs : Nat)⟩]) a (b + 1) else none) else quadratic_Forms.l1 k (-(D : Int)) xs a (b + 1)
      else quadratic_Forms.l1 k (-(D : Int)) xs a (b + 1) else quadratic_Forms.l1 k (-(D : Int)) xs a (b + 1)) else quadratic_Forms.l0 k (-(D : Int)) xs (a + 1 : Nat) := by
  have hc := cN_le (a := a) hD hb
  have q1 : wrap64 (Int.tdiv ((b.natAbs * b.natAbs + D : Nat) : Int) ((4 * a : Nat) : Int)) = ((cN D a b.natAbs : Nat) : Int) := by
    rw [tdiv_nat]; exact w_nat (cN D a b.natAbs) (by omega)
  have q2 : wrap64 (b + 1) = b + 1 := w32k (by omega) (by omega)
  have q3 : wrap64 ((a : Int) + 1) = ((a + 1 : Nat) : Int) := w32k (by omega) (by omega)
  have z : ¬ ((4 * a : Nat) : Int) = 0 := by clear q1 q2 q3; omega
  have y : (((b.natAbs * b.natAbs + D) % (4 * a) : Nat) : Int) = 0 ↔ (b.natAbs * b.natAbs + D) % (4 * a) = 0 := by clear q1 q2 q3; omega
  simp only [quadratic_Forms.l1]
  rw [num_w hD hb, den_w ha, tmod_nat, q1, q2, q3, if_neg z]
  simp only [y]

theorem reduced_f {D a : Nat} {b : Int} (hb : b.natAbs ≤ 60) :
    quadratic_reduced.f a b (cN D a b.natAbs : Nat) = some (decide (b.natAbs ≤ a) && decide (a ≤ cN D a b.natAbs) && (decide (0 ≤ b) || (decide (b.natAbs < a) && decide (a < cN D a b.natAbs)))) := by
  unfold quadratic_reduced.f
  rw [mx_abs b (by omega) (by omega)]
  by_cases c1 : b.natAbs ≤ a
  · rw [if_pos (by omega), decide_eq_true c1]
    by_cases c2 : a ≤ cN D a b.natAbs
    · rw [if_pos (by omega), decide_eq_true c2]
      by_cases c3 : 0 ≤ b
      · rw [if_pos (by omega), decide_eq_true c3]; rfl
      · rw [if_neg (by omega), decide_eq_false c3]
        by_cases c4 : b.natAbs < a
        · rw [if_pos (by omega), decide_eq_true c4]
          congr 1
          rw [Bool.eq_iff_iff]; simp
        · rw [if_neg (by omega), decide_eq_false c4]; rfl
    · rw [if_neg (by omega), decide_eq_false c2]; rfl
  · rw [if_neg (by omega), decide_eq_false c1]; rfl

theorem good_iff (D a n : Nat) : Chk.good D a n = (decide ((n * n + D) % (4 * a) = 0) && decide (a ≤ cN D a n) && decide (Nat.gcd (Nat.gcd a n) (cN D a n) = 1)) := by
  unfold Chk.good
  rw [Chk.force_eq, show Nat.beq (Nat.mod (Nat.add (Nat.mul n n) D) (Nat.mul 4 a)) 0 = decide ((n * n + D) % (4 * a) = 0) from Chk.beq_dec _ _]
  show cond _ (cond (Nat.ble a (cN D a n)) (Nat.beq (Nat.gcd (Nat.gcd a n) (cN D a n)) 1) false) false = _
  rw [Chk.beq_dec]
  have hb : Nat.ble a (cN D a n) = decide (a ≤ cN D a n) := by
    by_cases h : a ≤ cN D a n
    · rw [decide_eq_true h]; exact Nat.ble_eq.mpr h
    · rw [decide_eq_false h]; cases hc : Nat.ble a (cN D a n) with | false => rfl | true => exact absurd (Nat.ble_eq.mp hc) h
  rw [hb]
  cases decide ((n * n + D) % (4 * a) = 0) <;> cases decide (a ≤ cN D a n) <;> rfl

/-- The inner loop, from b = a + 1 - r on. -/
theorem forms_l1 {D a : Nat} (hD : D ≤ 10000) (ha : a ≤ 58) (h1 : 1 ≤ a) (r : Nat) : ∀ (xs : List S31) (v : List S31 × Int), r ≤ 2 * a + 1 → xs.length + r ≤ 100000 →
    Ev (fun k => quadratic_Forms.l0 k (-(D : Int)) (xs ++ rowF D a r) (a + 1 : Nat)) v → Ev (fun k => quadratic_Forms.l1 k (-(D : Int)) xs a ((a : Int) + 1 - r)) v := by
  induction r with
  | zero =>
    intro xs v _ _ h
    simp only [rowF, List.append_nil] at h
    refine Ev.step (fun k => ?_) h
    rw [f_l1 hD (by omega) h1 (by omega), if_neg (by omega)]
  | succ r ih =>
    intro xs v hr hx h
    have eb : (a : Int) + 1 - ((r + 1 : Nat) : Int) = (a : Int) - r := by omega
    rw [eb]
    generalize hbd : (a : Int) - r = b at h
    have hb : b.natAbs ≤ 60 := by omega
    have hba : b ≤ a := by omega
    have en : b + 1 = (a : Int) + 1 - r := by omega
    rw [rowF, hbd] at h
    have hR := reduced_f (D := D) (a := a) (b := b) hb
    have hG := good_iff D a b.natAbs
    have hc := cN_le (a := a) hD hb
    by_cases hok : okI D a b = true
    · rw [if_pos hok] at h
      unfold okI at hok
      rw [hG] at hok
      simp only [Bool.and_eq_true, decide_eq_true_eq] at hok
      obtain ⟨⟨⟨⟨g1, g2⟩, g3⟩, o2⟩, o3⟩ := hok
      rw [decide_eq_true o2, decide_eq_true g2, o3] at hR
      have hrec := ih (xs ++ [⟨a, b, (cN D a b.natAbs : Nat)⟩]) v (by omega) (by simp; omega) (by rw [List.append_assoc]; exact h)
      rw [← en] at hrec
      refine Ev.step (f := fun k => (quadratic_gcd.f k a b).bind fun t129 => (quadratic_gcd.f k t129 (cN D a b.natAbs : Nat)).bind fun t130 => if t130 = 1 then quadratic_Forms.l1 k (-(D : Int)) (xs ++ [⟨a, b, (cN D a b.natAbs : Nat)⟩]) a (b + 1) else quadratic_Forms.l1 k (-(D : Int)) xs a (b + 1)) (fun k => ?_) ?_
      · rw [f_l1 hD (by omega) h1 hb, if_pos hba, if_pos g1, hR]
        simp only [Option.bind_some, Bool.and_true, if_true]
        rw [if_pos (by omega)]
      · refine Ev.bind (gcd_f a b (by omega) (by omega)) ?_
        refine Ev.bind (gcd_f _ _ ?_ (by omega)) ?_
        · have := Nat.gcd_le_left b.natAbs (show 0 < (a : Int).natAbs by omega)
          omega
        · refine hrec.congr (fun k => ?_)
          simp only [Int.natAbs_natCast]
          rw [if_pos (by rw [g3]; rfl)]
    · rw [if_neg hok, List.nil_append] at h
      have hrec := ih xs v (by omega) (by omega) h
      rw [← en] at hrec
      by_cases g1 : (b.natAbs * b.natAbs + D) % (4 * a) = 0
      · cases hred : (decide (b.natAbs ≤ a) && decide (a ≤ cN D a b.natAbs) && (decide (0 ≤ b) || (decide (b.natAbs < a) && decide (a < cN D a b.natAbs)))) with
        | false =>
          rw [hred] at hR
          refine Ev.step (fun k => ?_) hrec
          rw [f_l1 hD (by omega) h1 hb, if_pos hba, if_pos g1, hR, Option.bind_some, if_neg (by simp)]
        | true =>
          rw [hred] at hR
          have g3 : ¬ Nat.gcd (Nat.gcd a b.natAbs) (cN D a b.natAbs) = 1 := by
            intro g3
            apply hok
            unfold okI
            rw [hG, decide_eq_true g1, decide_eq_true g3]
            simp only [Bool.and_eq_true] at hred
            rw [hred.1.1, hred.1.2, hred.2]; rfl
          refine Ev.step (f := fun k => (quadratic_gcd.f k a b).bind fun t129 => (quadratic_gcd.f k t129 (cN D a b.natAbs : Nat)).bind fun t130 => if t130 = 1 then quadratic_Forms.l1 k (-(D : Int)) (xs ++ [⟨a, b, (cN D a b.natAbs : Nat)⟩]) a (b + 1) else quadratic_Forms.l1 k (-(D : Int)) xs a (b + 1)) (fun k => ?_) ?_
          · rw [f_l1 hD (by omega) h1 hb, if_pos hba, if_pos g1, hR]
            simp only [Option.bind_some, if_true]
            rw [if_pos (by omega)]
          · refine Ev.bind (gcd_f a b (by omega) (by omega)) ?_
            refine Ev.bind (gcd_f _ _ ?_ (by omega)) ?_
            · have := Nat.gcd_le_left b.natAbs (show 0 < (a : Int).natAbs by omega)
              omega
            · refine hrec.congr (fun k => ?_)
              simp only [Int.natAbs_natCast]
              rw [if_neg (by omega)]
      · refine Ev.step (fun k => ?_) hrec
        rw [f_l1 hD (by omega) h1 hb, if_pos hba, if_neg g1]

theorem rowF_len (D a : Nat) : ∀ r, (rowF D a r).length ≤ r := by
  intro r
  induction r with
  | zero => simp [rowF]
  | succ r ih =>
    rw [rowF, List.length_append]
    split <;> simp <;> omega

theorem le58 {a D : Nat} (h : 3 * (a * a) ≤ D) (hD : D ≤ 10000) : a ≤ 57 := by
  apply Classical.byContradiction
  intro hc
  have := Nat.mul_le_mul (show 58 ≤ a from by omega) (show 58 ≤ a from by omega)
  omega

theorem three_w {a : Nat} (ha : a ≤ 60) : wrap64 (wrap64 (3 * (a : Int)) * a) = ((3 * (a * a) : Nat) : Int) := by
  have h1 : a * a ≤ 60 * 60 := Nat.mul_le_mul ha ha
  have e : 3 * (a : Int) * a = ((3 * (a * a) : Nat) : Int) := by rw [Int.mul_assoc]; omega
  have e1 : wrap64 (3 * (a : Int)) = 3 * (a : Int) := w32k (by omega) (by omega)
  rw [e1, e]
  exact w_nat _ (by omega)

theorem forms_l0 {D : Nat} (hD : D ≤ 10000) (t : Nat) : ∀ (a : Nat) (xs : List S31), 1 ≤ a → a ≤ 58 → 59 ≤ a + t → xs.length ≤ 120 * a → api_Form.f (xs ++ allF D t a) = some (xs ++ allF D t a) →
    Ev (fun k => quadratic_Forms.l0 k (-(D : Int)) xs a) (xs ++ allF D t a, 0) := by
  induction t with
  | zero => intro a xs _ _ h; omega
  | succ t ih =>
    intro a xs h1 h58 ht hx hs
    have en : wrap64 (-(-(D : Int))) = (D : Int) := by rw [w32k (by omega) (by omega)]; omega
    have em : wrap64 (-(a : Int)) = (a : Int) + 1 - ((2 * a + 1 : Nat) : Int) := by rw [w32k (by omega) (by omega)]; omega
    by_cases hle : 3 * (a * a) ≤ D
    · have h57 := le58 hle hD
      rw [allF, if_pos hle, ← List.append_assoc] at hs ⊢
      have hrl := rowF_len D a (2 * a + 1)
      have hrec := ih (a + 1) (xs ++ rowF D a (2 * a + 1)) (by omega) (by omega) (by omega) (by rw [List.length_append]; omega) hs
      have := forms_l1 hD h58 h1 (2 * a + 1) xs _ (Nat.le_refl _) (by omega) hrec
      refine Ev.step (fun k => ?_) this
      simp only [quadratic_Forms.l0]
      rw [three_w (by omega), en, em, if_pos (by clear en em; omega)]
    · rw [allF, if_neg hle, List.append_nil] at hs ⊢
      refine Ev.step (f := fun _ => some (xs, 0)) (fun k => ?_) (Ev.now _)
      simp only [quadratic_Forms.l0]
      rw [three_w (by omega), en, if_neg (by clear en em; omega), hs, Option.bind_some]

/-! the list is in order -/
theorem ascF_append : ∀ (xs ys : List S31), ascF xs = true → ascF ys = true → (∀ x ∈ xs, ∀ y ∈ ys, cmpF y x ≥ 0) → ascF (xs ++ ys) = true
  | [], ys, _, h, _ => h
  | x :: xs, ys, h, h', hc => by
    rw [ascF, Bool.and_eq_true] at h
    rw [List.cons_append, ascF, Bool.and_eq_true, List.all_append, Bool.and_eq_true]
    refine ⟨⟨h.1, List.all_eq_true.mpr fun y hy => decide_eq_true (hc x (by simp) y hy)⟩, ascF_append xs ys h.2 h' (fun x hx y hy => hc x (by simp [hx]) y hy)⟩

theorem rowF_mem {D a : Nat} : ∀ {r : Nat} {x : S31}, x ∈ rowF D a r → x.f0 = a ∧ (a : Int) - r < x.f1 ∧ x.f1 ≤ a ∧ x.f2 = (cN D a x.f1.natAbs : Nat) ∧ okI D a x.f1 = true
  | 0, x, h => by simp [rowF] at h
  | r + 1, x, h => by
    rw [rowF, List.mem_append] at h
    rcases h with h | h
    · split at h
      · rename_i hok
        rw [List.mem_singleton] at h
        subst h
        exact ⟨rfl, by simp only; omega, by simp only; omega, rfl, hok⟩
      · simp at h
    · obtain ⟨h1, h2, h3, h4⟩ := rowF_mem h
      exact ⟨h1, by omega, h3, h4⟩

theorem rowF_asc (D a : Nat) : ∀ r, ascF (rowF D a r) = true
  | 0 => rfl
  | r + 1 => by
    rw [rowF]
    apply ascF_append _ _ _ (rowF_asc D a r)
    · intro x hx y hy
      split at hx
      · rw [List.mem_singleton] at hx
        obtain ⟨h1, h2, h3, _⟩ := rowF_mem hy
        subst hx
        unfold cmpF
        rw [if_pos h1, if_neg (by simp only; omega)]
        simp only; omega
      · simp at hx
    · split <;> rfl

theorem allF_mem {D : Nat} : ∀ {t a : Nat} {x : S31}, x ∈ allF D t a → ∃ a', a ≤ a' ∧ 3 * (a' * a') ≤ D ∧ x ∈ rowF D a' (2 * a' + 1)
  | 0, a, x, h => by simp [allF] at h
  | t + 1, a, x, h => by
    rw [allF] at h
    split at h
    · rename_i hle
      rw [List.mem_append] at h
      rcases h with h | h
      · exact ⟨a, Nat.le_refl _, hle, h⟩
      · obtain ⟨a', h1, h2⟩ := allF_mem h
        exact ⟨a', by omega, h2⟩
    · simp at h

theorem allF_asc (D : Nat) : ∀ t a, ascF (allF D t a) = true
  | 0, _ => rfl
  | t + 1, a => by
    rw [allF]
    split
    · apply ascF_append _ _ (rowF_asc D a _) (allF_asc D t (a + 1))
      intro x hx y hy
      obtain ⟨h1, _⟩ := rowF_mem hx
      obtain ⟨a', h2, _, h3⟩ := allF_mem hy
      obtain ⟨h4, _⟩ := rowF_mem h3
      unfold cmpF
      rw [if_neg (by omega)]
      omega
    · rfl

theorem allF_len (D : Nat) (hD : D ≤ 10000) : ∀ t a, (allF D t a).length ≤ 120 * t
  | 0, _ => by simp [allF]
  | t + 1, a => by
    rw [allF]
    split
    · rename_i hle
      have := le58 hle hD
      have h1 := rowF_len D a (2 * a + 1)
      have h2 := allF_len D hD t (a + 1)
      rw [List.length_append]; omega
    · simp

/-- All reduced forms. -/
def formsOf (D : Nat) : List S31 := allF D 58 1

theorem sort_ok {D : Nat} (hD : D ≤ 10000) (hne : formsOf D ≠ []) : api_Form.f (formsOf D) = some (formsOf D) := by
  unfold api_Form.f
  rw [if_pos]
  have h1 : (formsOf D).isEmpty = false := by rw [List.isEmpty_eq_false_iff]; exact hne
  have h2 : (formsOf D).all smallF = true := by
    rw [List.all_eq_true]
    intro x hx
    obtain ⟨a, _, hle, hm⟩ := allF_mem hx
    have ha := le58 hle hD
    obtain ⟨e0, e1, e2, e3, _⟩ := rowF_mem hm
    have hc := cN_le (a := a) (n := x.f1.natAbs) hD (by omega)
    unfold smallF
    rw [decide_eq_true_iff]
    omega
  have h3 : ascF (formsOf D) = true := allF_asc D 58 1
  have h4 : (formsOf D).length < 1000000 := by
    have := allF_len D hD 58 1
    unfold formsOf
    omega
  rw [h1, h2, h3, decide_eq_true h4]; rfl

/-- The program's list. -/
theorem forms {D : Nat} (h3 : 3 ≤ D) (hD : D ≤ 10000) (hf : Ev (fun k => quadratic_fundamental.f k (-(D : Int))) true) (hne : formsOf D ≠ []) :
    Ev (fun k => quadratic_Forms.f k (-(D : Int))) (formsOf D, 0) := by
  have hl := forms_l0 hD 58 1 [] (by omega) (by omega) (by omega) (by simp) (by rw [List.nil_append]; exact sort_ok hD hne)
  rw [List.nil_append] at hl
  have h1 : Ev (fun k => quadratic_Forms.j1 k (-(D : Int)) 0) (formsOf D, 0) := Ev.step (fun k => by simp only [quadratic_Forms.j1]; rw [if_pos trivial]; rfl) hl
  have h0 : Ev (fun k => quadratic_Forms.j0 k (-(D : Int)) 0 false) (formsOf D, 0) := Ev.step (fun k => by simp only [quadratic_Forms.j0]; rw [if_neg (by simp)]) h1
  refine (Ev.bind (bounded_one (-(D : Int)) (by omega)) ?_ : Ev (fun k => (quadratic_bounded.f k [-(D : Int)]).bind _) _)
  refine Ev.congr (f := fun k => (quadratic_fundamental.f k (-(D : Int))).bind fun t => quadratic_Forms.j0 k (-(D : Int)) 0 (!t)) (fun k => ?_) (Ev.bind hf h0)
  simp only [if_true]
  rw [if_neg (by omega), if_neg (by omega)]

end Go.Proofs.Ytppdaagiofcmkaa.M
