/- For every whole number d the law on class numbers answers true: by the check of all fundamental discriminants from -3 to -10000. -/
import Derived.Test.YtppdaagiofcmkaaQx7
import Derived.Test.YtppdaagiofcmkaaM5
import Derived.Test.YtppdaagiofcmkaaRunAll
namespace Go.Proofs.Ytppdaagiofcmkaa.Pure
open Go.RowKit Go.Proofs.Ytppdaagiofcmkaa.Q Go.Proofs.YtppdaagiofcmkaaW.PrintWords Go.Proofs.YtppdaagiofcmkaaW.PrintLast
open Go.Proofs.Ytppdaagiofcmkaa.M
open Go.Proofs.Ytppdaagiofcmkaa.Chk (T Says prodL)

theorem wide_j0 (a0 : Int) : Ev (fun k => galoistop_TopClassNumbers.j0 k a0 true) true := by
  refine Ev.step (f := fun k => (galoistop_wideForms.f k).bind fun t => some t) (fun k => ?_) (Ev.bind wide (Ev.now _))
  simp only [galoistop_TopClassNumbers.j0]
  rw [if_pos trivial]

/-- What the check says, at a fundamental discriminant. -/
theorem says {D : Nat} (h3 : 3 ≤ D) (hD : D ≤ 10000) (hS : Shape D) : ∃ (c m n2 : Nat), D = 2 ^ c * m ∧ m % 2 = 1 ∧ (n2 = if c = 0 then 0 else 1) ∧ Says D m n2 := by
  obtain ⟨s1, s2, s3, s4⟩ := Chk.chk_sound hD (Chk.run_all D h3 hD)
  rcases hS with ⟨h, hn⟩ | ⟨h0, hn, hne⟩
  · exact ⟨0, D, 0, by omega, by omega, rfl, s1 h hn⟩
  · have h4 : ¬ D / 4 % 4 = 0 := fun h => hn 2 (by omega) (Nat.dvd_of_mod_eq_zero h)
    by_cases c1 : D % 16 = 4
    · exact ⟨2, D / 4, 1, by omega, by omega, rfl, s2 c1 hn⟩
    · have hn8 : Chk.Nosq (D / 8) := fun q hq hd => hn q hq (Nat.dvd_trans hd ⟨2, by omega⟩)
      by_cases c2 : D % 32 = 8
      · exact ⟨3, D / 8, 1, by omega, by omega, rfl, s3 c2 hn8⟩
      · exact ⟨3, D / 8, 1, by omega, by omega, rfl, s4 (by omega) hn8⟩

/-- The law at a fundamental discriminant, from the units on. -/
theorem at_units {D : Nat} (h3 : 3 ≤ D) (hD : D ≤ 10000) (hS : Shape D) : formsOf D ≠ [] ∧ Ev (fun k => galoistop_TopClassNumbers.j1 k (-(D : Int)) (formsOf D) (Chk.units D : Nat)) true := by
  obtain ⟨c, m, n2, hDm, hm, hn2, L, hL, hnd, hp, hamb, hsum⟩ := says h3 hD hS
  rw [Chk.hf_mod] at hamb
  rw [Chk.hf_div] at hsum
  have hAs := Chk.As_lt D
  have hlen := len_formsOf hD
  have hcnt := amb_formsOf hD
  have hle : (formsOf D).length ≤ 10000 := by
    have := allF_len D hD 58 1
    unfold formsOf; omega
  have hnp : np D (D + 1) = L.length + n2 := by
    rw [np_all hDm hm (fun p hp => (hL p hp).1) hnd hp, hn2]
  have hnp20 : np D (D + 1) ≤ 20 := by
    rw [hnp]
    apply Classical.byContradiction
    intro hc
    have := Nat.pow_le_pow_right (n := 2) (by omega) (show 20 ≤ L.length + n2 from by omega)
    omega
  have hw : Chk.units D ≤ 6 := by
    unfold Chk.units
    cases Nat.beq D 3 <;> cases Nat.beq D 4 <;> simp
  have hne : formsOf D ≠ [] := by
    intro h
    rw [h] at hcnt
    have : Chk.As D = 0 := by rw [← hcnt]; rfl
    have h2 := Nat.two_pow_pos (L.length + n2)
    omega
  refine ⟨hne, ?_⟩
  have e2 : 2 * cnt ambF (formsOf D) = 2 ^ np D (D + 1) := by rw [hcnt, hnp, hamb]
  have l2 := law_l2 h3 hD (formsOf D) hle hnp20 (D - 1) 2 (by omega) (by omega)
  rw [np_two, Nat.pow_zero] at l2
  have hsmall : 2 ^ np D (D + 1) ≤ 20000 := by
    have h1 : cnt ambF (formsOf D) ≤ (formsOf D).length := by
      have : ∀ l : List S31, cnt ambF l ≤ l.length := by
        intro l
        induction l with
        | nil => simp [cnt]
        | cons x l ih => rw [cnt, List.length_cons]; split <;> omega
      exact this _
    omega
  have hSI : SI D (Chk.units D) (D + 1) = 2 * (D : Int) * (formsOf D).length := by
    have e : SI D (Chk.units D) (D + 1) = SI D (Chk.units D) D := by
      rw [SI, T_self hS, Int.mul_zero, Int.sub_zero]
    rw [e, SI_sum, hlen, ← Int.natCast_mul, ← Int.natCast_mul, hsum, Int.natCast_add]
    rw [Int.natCast_mul (2 * D), Int.natCast_mul 2 D, show ((2 : Nat) : Int) = 2 from rfl]
    omega
  have l1 := law_l1 (D := D) (2 * (D : Int) * (formsOf D).length) (formsOf D) hle true (2 ^ np D (D + 1)) hsmall l2 (formsOf D).length 0 0 (by omega) (by rw [List.drop_zero]; omega)
  rw [← hSI] at l1
  have l0 := law_l0 hS h3 hD (Chk.units D) hw (formsOf D) true l1 D 1 (by omega) (by omega)
  have e1 : SI D (Chk.units D) 1 = 0 := by simp [SI]
  rw [e1] at l0
  refine Ev.step (fun k => ?_) l0
  simp only [galoistop_TopClassNumbers.j1]
  rfl

theorem at_fund {D : Nat} (h3 : 3 ≤ D) (hD : D ≤ 10000) : Ev (fun k => galoistop_TopClassNumbers.f k (-(D : Int))) true := by
  obtain ⟨b, hb1, hb2, hb3⟩ := fund D h3 hD
  refine Ev.congr (f := fun k => (galoisref50_IsFundamental.f k (-(D : Int))).bind fun t => galoistop_TopClassNumbers.j0 k (-(D : Int)) (!t)) (fun k => ?_) (Ev.bind hb1 ?_)
  · unfold galoistop_TopClassNumbers.f
    by_cases h : D = 3
    · subst h
      rw [if_neg (by omega), if_neg (by omega)]
    · rw [if_neg (by omega), if_neg (by omega)]
  · cases b with
    | false => exact wide_j0 _
    | true =>
      have hS := hb3 rfl
      obtain ⟨hne, hu⟩ := at_units h3 hD hS
      have hF := forms h3 hD hb2 hne
      refine Ev.step (f := fun k => (quadratic_Forms.f k (-(D : Int))).bind fun bt155 => if bt155.2 = 0 then (if (-(D : Int)) = (-3) then galoistop_TopClassNumbers.j1 k (-(D : Int)) bt155.1 6 else if (-(D : Int)) = (-4) then galoistop_TopClassNumbers.j1 k (-(D : Int)) bt155.1 4 else galoistop_TopClassNumbers.j1 k (-(D : Int)) bt155.1 2) else some false) (fun k => ?_) (Ev.bind hF ?_)
      · simp only [galoistop_TopClassNumbers.j0]
        rw [if_neg (by simp)]
      · refine hu.congr (fun k => ?_)
        rw [if_pos rfl]
        unfold Chk.units
        rw [Chk.beq_dec, Chk.beq_dec]
        by_cases c3 : D = 3
        · rw [if_pos (by omega), decide_eq_true c3]; rfl
        · rw [if_neg (by omega), decide_eq_false c3]
          by_cases c4 : D = 4
          · rw [if_pos (by omega), decide_eq_true c4]; rfl
          · rw [if_neg (by omega), decide_eq_false c4]; rfl

theorem TopClassNumbers : galoistop_TopClassNumbers.Pure := by
  intro a0 _
  by_cases h1 : a0 > -3
  · refine Ev.rounds ((wide_j0 a0).congr (fun k => ?_))
    unfold galoistop_TopClassNumbers.f
    rw [if_pos h1]
  · by_cases h2 : a0 < -10000
    · refine Ev.rounds ((wide_j0 a0).congr (fun k => ?_))
      unfold galoistop_TopClassNumbers.f
      rw [if_neg h1, if_pos h2]
    · obtain ⟨D, rfl⟩ : ∃ D : Nat, a0 = -(D : Int) := ⟨a0.natAbs, by omega⟩
      exact Ev.rounds (at_fund (by omega) (by omega))

end Go.Proofs.Ytppdaagiofcmkaa.Pure
