import Derived.Test.YtppdaagiofcmkaaM4
import Derived.Test.YtppdaagiofcmkaaRep1
/- The points at which the reduced forms have a value: the law's count is the check's. -/
namespace Go.Proofs.Ytppdaagiofcmkaa.M
open Go.RowKit Go.Proofs.Ytppdaagiofcmkaa.Q Go.Proofs.YtppdaagiofcmkaaW.PrintWords Go.Proofs.YtppdaagiofcmkaaW.PrintLast Go.Proofs.YtppdaagiofcmkaaW.PrintMore
open Go.Proofs.Ytppdaagiofcmkaa.Recip (S)

/-- One if a form has the value m there. -/
def hit (m : Nat) (x : S31) (u v : Int) : Nat := if x.f0 * u * u + x.f1 * u * v + x.f2 * v * v = (m : Int) then 1 else 0
/-- The points of one form. -/
def nF (m : Nat) (x : S31) : Nat := S (fun i => S (fun j => hit m x ((i : Nat) - 24 : Int) ((j : Nat) - 24 : Int)) 49) 49
def wsum (q : S31 → Nat) : List S31 → Nat
  | [] => 0
  | x :: l => q x + wsum q l
theorem wsum_append (q : S31 → Nat) : ∀ xs ys, wsum q (xs ++ ys) = wsum q xs + wsum q ys
  | [], ys => by simp [wsum]
  | x :: xs, ys => by rw [List.cons_append, wsum, wsum, wsum_append q xs ys]; omega

theorem rowF_wsum (q : S31 → Nat) (D a : Nat) : ∀ r, wsum q (rowF D a r) = S (fun t => if okI D a ((a : Int) - t) = true then q (formI D a ((a : Int) - t)) else 0) r := by
  intro r
  induction r with
  | zero => rfl
  | succ r ih =>
    rw [Recip.S_succ, rowF, wsum_append, ih, Nat.add_comm]
    congr 1
    by_cases h : okI D a ((a : Int) - r) = true
    · rw [if_pos h, if_pos h, wsum, wsum, Nat.add_zero]; rfl
    · rw [if_neg h, if_neg h]; rfl

theorem row_wsum (q : S31 → Nat) (D a : Nat) (hq : ∀ n : Nat, q (formI D a (-(n : Int))) = q (formI D a (n : Int))) : wsum q (rowF D a (2 * a + 1)) = S (fun n => Chk.big D a n * q (formI D a (n : Int))) (a + 1) := by
  rw [rowF_wsum, S_sym (fun b => if okI D a b = true then q (formI D a b) else 0)]
  apply Recip.S_congr
  intro n hn
  have hn' : n ≤ a := by omega
  unfold Chk.big
  rw [ok_le hn', amb_iff, okI_pos hn']
  by_cases h0 : n = 0
  · subst h0
    cases Chk.good D a 0 <;> simp
  · rw [if_neg h0, okI_neg hn' h0, hq]
    cases hg : Chk.good D a n with
    | false => simp
    | true =>
      have hc := le_of_good hg
      rw [decide_eq_false h0]
      by_cases h1 : a = n
      · rw [decide_eq_true h1, decide_eq_false (show ¬ n < a from by omega)]; simp
      · rw [decide_eq_false h1, decide_eq_true (show n < a from by omega)]
        by_cases h2 : cN D a n = a
        · rw [decide_eq_true h2, decide_eq_false (show ¬ a < cN D a n from by omega)]; simp
        · rw [decide_eq_false h2, decide_eq_true (show a < cN D a n from by omega)]; simp; omega

theorem all_wsum (q : S31 → Nat) (D : Nat) (f : Nat → Nat) (hf : ∀ a, 1 ≤ a → wsum q (rowF D a (2 * a + 1)) = f a) : ∀ t a, 1 ≤ a → wsum q (allF D t a) = S (fun i => if 3 * ((a + i) * (a + i)) ≤ D then f (a + i) else 0) t
  | 0, _, _ => rfl
  | t + 1, a, ha => by
    rw [allF, S_shift]
    simp only [Nat.add_zero]
    by_cases h : 3 * (a * a) ≤ D
    · rw [if_pos h, if_pos h, wsum_append, hf a ha, all_wsum q D f hf t (a + 1) (by omega)]
      congr 1
      apply Recip.S_congr
      intro i _
      rw [show a + 1 + i = a + (i + 1) from by omega]
    · rw [if_neg h, if_neg h, Nat.zero_add]
      have : S (fun i => if 3 * ((a + (i + 1)) * (a + (i + 1))) ≤ D then f (a + (i + 1)) else 0) t = S (fun _ => 0) t := by
        apply Recip.S_congr
        intro i _
        rw [if_neg]
        have := Nat.mul_le_mul (show a ≤ a + (i + 1) from by omega) (show a ≤ a + (i + 1) from by omega)
        omega
      rw [this, Recip.S_const]; rfl

/-! the points of one form, by signs -/
theorem S_signs (f : Int → Nat) (n : Nat) (z : Int) (hz : z = n) : S (fun i => f ((i : Nat) - z)) (2 * n + 1) = S (fun x => f (-(x : Int)) + (if x = 0 then 0 else f x)) (n + 1) := by
  have := S_sym (fun z => f (-z)) n
  simp only [Int.neg_neg] at this
  rw [← this]
  apply Recip.S_congr
  intro i _
  congr 1; omega

theorem nF_signs (m : Nat) (x : S31) : nF m x = S (fun u => S (fun v => (hit m x (-(u : Int)) (-(v : Int)) + (if v = 0 then 0 else hit m x (-(u : Int)) v)) + (if u = 0 then 0 else hit m x u (-(v : Int)) + (if v = 0 then 0 else hit m x u v))) 25) 25 := by
  unfold nF
  rw [show 49 = 2 * 24 + 1 from rfl, S_signs (fun u => S (fun j => hit m x u ((j : Nat) - 24 : Int)) (2 * 24 + 1)) 24 24 rfl]
  apply Recip.S_congr
  intro u _
  have e : ∀ z : Int, S (fun j => hit m x z ((j : Nat) - 24 : Int)) (2 * 24 + 1) = S (fun v => hit m x z (-(v : Int)) + (if v = 0 then 0 else hit m x z v)) (24 + 1) := fun z => S_signs (hit m x z) 24 24 rfl
  rw [e, e]
  by_cases h : u = 0
  · subst h
    rw [if_pos rfl, Nat.add_zero]
    apply Recip.S_congr
    intro v _
    rw [if_pos rfl, Nat.add_zero]
  · rw [if_neg h, ← Recip.S_add]
    apply Recip.S_congr
    intro v _
    rw [if_neg h]

/-- The values, with the discriminant. -/
theorem four_val {D a b c u v : Int} (hd : b * b + D = 4 * a * c) : 4 * a * (a * u * u + b * u * v + c * v * v) = (2 * a * u + b * v) * (2 * a * u + b * v) + D * (v * v) := by
  have e : D = 4 * a * c - b * b := by omega
  rw [e]
  grind

theorem hit_even (m : Nat) (x : S31) (u v : Int) : hit m x (-u) (-v) = hit m x u v := by
  unfold hit
  rw [show x.f0 * -u * -u + x.f1 * -u * -v + x.f2 * -v * -v = x.f0 * u * u + x.f1 * u * v + x.f2 * v * v from by grind]

theorem hit_of {m : Nat} {x : S31} {u v V : Int} (e : x.f0 * u * u + x.f1 * u * v + x.f2 * v * v = V) : hit m x u v = if V = (m : Int) then 1 else 0 := by subst e; rfl
theorem formI_val (D a n : Nat) (u v : Int) : (formI D a n).f0 * u * u + (formI D a n).f1 * u * v + (formI D a n).f2 * v * v = (a : Int) * u * u + (n : Int) * u * v + (cN D a n : Int) * v * v := rfl
theorem hit_plus {D a n m u v : Nat} : hit m (formI D a n) u v = Rep.ind m (Rep.val a (cN D a n) u v + n * u * v) := by
  have e : (a : Int) * u * u + (n : Int) * u * v + (cN D a n : Int) * v * v = ((a * (u * u) + cN D a n * (v * v) + n * u * v : Nat) : Int) := by
    simp only [Int.natCast_add, Int.natCast_mul]
    grind
  rw [hit_of ((formI_val D a n u v).trans e)]
  unfold Rep.ind Rep.val
  by_cases h : a * (u * u) + cN D a n * (v * v) + n * u * v = m
  · rw [if_pos (by omega), if_pos h]
  · rw [if_neg (by omega), if_neg h]

theorem mix_le {a n c u v : Nat} (hn : n ≤ a) (hc : a ≤ c) : n * u * v ≤ a * (u * u) + c * (v * v) := by
  by_cases h : u ≤ v
  · have h1 : n * u * v ≤ c * v * v := Nat.mul_le_mul (Nat.mul_le_mul (by omega) h) (Nat.le_refl _)
    rw [Nat.mul_assoc c] at h1
    omega
  · have h1 : n * u * v ≤ a * u * u := Nat.mul_le_mul (Nat.mul_le_mul hn (Nat.le_refl _)) (by omega)
    rw [Nat.mul_assoc a] at h1
    omega

theorem hit_minus {D a n m u v : Nat} (hn : n ≤ a) (hc : a ≤ cN D a n) : hit m (formI D a n) u (-(v : Int)) = Rep.ind m (Rep.val a (cN D a n) u v - n * u * v) := by
  have hle := mix_le (u := u) (v := v) hn hc
  have e : (a : Int) * u * u + (n : Int) * u * -(v : Int) + (cN D a n : Int) * -(v : Int) * -(v : Int) = ((a * (u * u) + cN D a n * (v * v) : Nat) : Int) - ((n * u * v : Nat) : Int) := by
    simp only [Int.natCast_add, Int.natCast_mul]
    grind
  rw [hit_of ((formI_val D a n u (-(v : Int))).trans e)]
  unfold Rep.ind Rep.val
  by_cases h : a * (u * u) + cN D a n * (v * v) - n * u * v = m
  · rw [if_pos (by omega), if_pos h]
  · rw [if_neg (by omega), if_neg h]

/-- Where y is large, no value is small. -/
theorem hit_far {D a n m v : Nat} (h2 : m ≤ 300) (hd : 4 * a * cN D a n = n * n + D) (hfar : 1200 * a < D * (v * v)) (su sv : Int) (hv : sv = v ∨ sv = -(v : Int)) : hit m (formI D a n) su sv = 0 := by
  unfold hit formI
  simp only [Int.natAbs_natCast]
  rw [if_neg]
  intro he
  have hdI : (n : Int) * n + D = 4 * a * (cN D a n : Int) := by
    have := congrArg (fun z : Nat => (z : Int)) hd
    simp only [Int.natCast_mul, Int.natCast_add] at this
    rw [← this]; rfl
  have h4 := four_val (u := su) (v := sv) hdI
  rw [he] at h4
  have hsq := sq_abs (2 * (a : Int) * su + n * sv)
  have hvv : sv * sv = ((v * v : Nat) : Int) := by
    rw [Int.natCast_mul]
    rcases hv with rfl | rfl
    · rfl
    · rw [Int.neg_mul_neg]
  rw [hsq, hvv, ← Int.natCast_mul] at h4
  have h5 : 4 * (a : Int) * m ≤ ((1200 * a : Nat) : Int) := by
    have : 4 * a * m ≤ 4 * a * 300 := Nat.mul_le_mul_left _ h2
    have e : 4 * (a : Int) * m = ((4 * a * m : Nat) : Int) := by simp only [Int.natCast_mul]; rfl
    rw [e]; omega
  omega

/-- The points of a form, as the check counts them. -/
theorem nF_pts {D a n m : Nat} (h1 : 1 ≤ m) (h2 : m ≤ 300) (_ha : 1 ≤ a) (hn : n ≤ a) (hg : Chk.good D a n = true) : nF m (formI D a n) = Rep.pts D a n (cN D a n) (Rep.ind m) := by
  have hg' := hg
  rw [good_iff] at hg'
  simp only [Bool.and_eq_true, decide_eq_true_eq] at hg'
  obtain ⟨⟨hd, hc⟩, _⟩ := hg'
  have h4c : 4 * a * cN D a n = n * n + D := by unfold cN; exact Nat.mul_div_cancel' (Nat.dvd_of_mod_eq_zero hd)
  rw [nF_signs, Rep.pts_S, Recip.S_swap (fun v u => (hit m (formI D a n) (-(u : Int)) (-(v : Int)) + (if v = 0 then 0 else hit m (formI D a n) (-(u : Int)) v)) + (if u = 0 then 0 else hit m (formI D a n) u (-(v : Int)) + (if v = 0 then 0 else hit m (formI D a n) u v)))]
  apply Recip.S_congr
  intro v _
  by_cases hfar : 1200 * a < D * (v * v)
  · rw [show Nat.blt (1200 * a) (D * (v * v)) = true from Nat.blt_eq.mpr hfar, cond]
    rw [Recip.S_congr (g := fun _ => 0), Recip.S_const, Nat.mul_zero]
    intro u _
    have z := fun su sv hv => hit_far (m := m) h2 h4c hfar su sv hv
    rw [z _ _ (.inr rfl), z _ _ (.inl rfl), z _ _ (.inr rfl), z _ _ (.inl rfl)]
    simp
  · have hb : Nat.blt (1200 * a) (D * (v * v)) = false := by
      cases hc : Nat.blt (1200 * a) (D * (v * v)) with
      | false => rfl
      | true => exact absurd (Nat.blt_eq.mp hc) hfar
    rw [hb, cond]
    apply Recip.S_congr
    intro u _
    rw [hit_even, hit_plus, hit_minus hn hc]
    have e2 : hit m (formI D a n) (-(u : Int)) v = Rep.ind m (Rep.val a (cN D a n) u v - n * u * v) := by
      have := hit_even m (formI D a n) u (-(v : Int))
      rw [Int.neg_neg] at this
      rw [this, hit_minus hn hc]
    rw [e2]
    unfold Rep.wxy
    rw [Chk.beq_dec, Chk.beq_dec]
    by_cases hu : u = 0
    · subst hu
      rw [if_pos rfl, decide_eq_true rfl, cond, Nat.mul_zero, Nat.zero_mul, Nat.sub_zero, Nat.add_zero, Nat.one_mul]
      by_cases hv : v = 0
      · subst hv
        have h0 : Rep.ind m (Rep.val a (cN D a n) 0 0) = 0 := by
          unfold Rep.ind Rep.val
          rw [if_neg (by simp; omega)]
        rw [if_pos rfl, h0]
      · rw [if_neg hv]
    · rw [if_neg hu, decide_eq_false hu, cond]
      by_cases hv : v = 0
      · subst hv
        rw [if_pos rfl, if_pos rfl, decide_eq_true rfl, cond, Nat.mul_zero, Nat.sub_zero, Nat.add_zero, Nat.add_zero, Nat.one_mul, Nat.add_zero]
      · rw [if_neg hv, if_neg hv, decide_eq_false hv, cond]
        omega

theorem nF_even (D a m n : Nat) : nF m (formI D a (-(n : Int))) = nF m (formI D a (n : Int)) := by
  unfold nF
  apply Recip.S_congr
  intro i _
  have e : ∀ (z : Int) (j : Nat), hit m (formI D a (-(n : Int))) z ((j : Nat) - 24 : Int) = hit m (formI D a (n : Int)) z (-((j : Nat) - 24 : Int)) := by
    intro z j
    unfold hit formI
    simp only [Int.natAbs_neg]
    congr 2
    grind
  rw [show 49 = 48 + 1 from rfl, ← S_rev (fun j => hit m (formI D a (n : Int)) ((i : Nat) - 24 : Int) ((j : Nat) - 24 : Int)) 48]
  apply Recip.S_congr
  intro j hj
  rw [e]
  congr 1
  omega

/-- All the points: the check's number. -/
theorem all_pts {D m : Nat} (hD : D ≤ 2000) (h1 : 1 ≤ m) (h2 : m ≤ 300) : wsum (nF m) (formsOf D) = Rep.phi D (Rep.ind m) := by
  rw [formsOf, all_wsum (nF m) D (fun a => S (fun n => Chk.big D a n * nF m (formI D a (n : Int))) (a + 1)) (fun a _ => row_wsum (nF m) D a (fun n => nF_even D a m n)) 58 1 (by omega), Rep.phi_S]
  rw [Chk.S_cut _ 26 58 (by omega)]
  · apply Recip.S_congr
    intro a _
    simp only [show 1 + a = a + 1 from by omega]
    by_cases h : 3 * ((a + 1) * (a + 1)) ≤ D
    · have hb : Nat.blt D (3 * ((a + 1) * (a + 1))) = false := by
        cases hc : Nat.blt D (3 * ((a + 1) * (a + 1))) with
        | false => rfl
        | true => exact absurd (Nat.blt_eq.mp hc) (by omega)
      rw [hb, if_pos h, cond]
      apply Recip.S_congr
      intro n hn
      have hn' : n ≤ a + 1 := by omega
      unfold Chk.big
      rw [ok_le hn']
      cases hg : Chk.good D (a + 1) n with
      | false => simp
      | true =>
        rw [if_pos rfl, nF_pts h1 h2 (by omega) hn' hg, cond]
        show _ = cond (Chk.amb D (a + 1) n) 1 2 * Rep.pts D (a + 1) n (cN D (a + 1) n) (Rep.ind m)
        cases Chk.amb D (a + 1) n <;> rfl
    · have hb : Nat.blt D (3 * ((a + 1) * (a + 1))) = true := Nat.blt_eq.mpr (by omega)
      rw [hb, if_neg h, cond]
  · intro i hi _
    rw [if_neg]
    have := Nat.mul_le_mul (show 26 ≤ 1 + i from by omega) (show 26 ≤ 1 + i from by omega)
    omega

end Go.Proofs.Ytppdaagiofcmkaa.M
