/- For every two whole numbers the law on representations by reduced forms answers true: by the check of all fundamental discriminants from -3 to -2000. -/
import Derived.Test.YtppdaagiofcmkaaQx8
import Derived.Test.YtppdaagiofcmkaaM6
import Derived.Test.YtppdaagiofcmkaaRpnAll
namespace Go.Proofs.Ytppdaagiofcmkaa.Pure
open Go.RowKit Go.Proofs.Ytppdaagiofcmkaa.Q Go.Proofs.YtppdaagiofcmkaaW.PrintWords Go.Proofs.YtppdaagiofcmkaaW.PrintLast
open Go.Proofs.Ytppdaagiofcmkaa.M
open Go.Proofs.Ytppdaagiofcmkaa.Recip (S)
open Go.Proofs.Ytppdaagiofcmkaa.Chk (T)

theorem wideR : Ev (fun k => galoistop_wideForms.f k) true :=
  Ev.of (fun k => galoistop_wideForms.mono k) (k := 60) (by decide +kernel)

theorem mul_bd {a b : Int} {A B : Nat} (ha : a.natAbs ≤ A) (hb : b.natAbs ≤ B) : (a * b).natAbs ≤ A * B := by
  rw [Int.natAbs_mul]; exact Nat.mul_le_mul ha hb
theorem wb {x : Int} (h : x.natAbs ≤ 100000000) : wrap64 x = x := w32k (by omega) (by omega)

/-- The form's value, as the program computes it. -/
theorem val_w {a b c u v : Int} (ha : a.natAbs ≤ 100) (hb : b.natAbs ≤ 100) (hc : c.natAbs ≤ 20000) (hu : u.natAbs ≤ 24) (hv : v.natAbs ≤ 24) :
    wrap64 (wrap64 (wrap64 (wrap64 (a * u) * u) + wrap64 (wrap64 (b * u) * v)) + wrap64 (wrap64 (c * v) * v)) = a * u * u + b * u * v + c * v * v := by
  have a1 := mul_bd ha hu
  have a2 := mul_bd a1 hu
  have b1 := mul_bd hb hu
  have b2 := mul_bd b1 hv
  have c1 := mul_bd hc hv
  have c2 := mul_bd c1 hv
  rw [wb (x := a * u) (by omega), wb (x := b * u) (by omega), wb (x := c * v) (by omega), wb (x := a * u * u) (by omega), wb (x := b * u * v) (by omega), wb (x := c * v * v) (by omega)]
  rw [wb (x := a * u * u + b * u * v) (by omega), wb (by omega)]

def SmallF (x : S31) : Prop := x.f0.natAbs ≤ 100 ∧ x.f1.natAbs ≤ 100 ∧ x.f2.natAbs ≤ 20000

theorem hit_le (m : Nat) (x : S31) (u v : Int) : hit m x u v ≤ 1 := by unfold hit; split <;> omega

/-- The inner loop over y. -/
theorem rep_l2 {D m : Nat} (l : List S31) (i : Nat) (x : S31) (hx : SmallF x) (u : Int) (hu : u.natAbs ≤ 24) (X : Nat) (hX : X ≤ 10000000) (v : Bool)
    (hend : Ev (fun k => galoistop_TopRepresented.l1 k (-(D : Int)) m l (X + S (fun j => hit m x u ((j : Nat) - 24 : Int)) 49 : Nat) i (u + 1) x.f0 x.f1 x.f2) v) (d : Nat) : ∀ j : Nat, j + d = 49 →
    Ev (fun k => galoistop_TopRepresented.l2 k (-(D : Int)) m l (X + S (fun j => hit m x u ((j : Nat) - 24 : Int)) j : Nat) i u ((j : Int) - 24) x.f0 x.f1 x.f2) v := by
  induction d with
  | zero =>
    intro j hj
    obtain rfl : j = 49 := by omega
    refine Ev.step (fun k => ?_) hend
    simp only [galoistop_TopRepresented.l2]
    rw [if_neg (by omega), show wrap64 (u + 1) = u + 1 from w32k (by omega) (by omega)]
  | succ d ih =>
    intro j hj
    have hrec := ih (j + 1) (by omega)
    have hb : S (fun j => hit m x u ((j : Nat) - 24 : Int)) j ≤ 49 := Nat.le_trans (Rep.S_bd _ j 1 (fun j _ => hit_le m x u _)) (by omega)
    rw [Recip.S_succ] at hrec
    have ej : (((j + 1 : Nat) : Int) - 24) = (j : Int) - 24 + 1 := by omega
    rw [ej] at hrec
    generalize hz : (j : Int) - 24 = z at hrec ⊢
    have hzb : z.natAbs ≤ 24 := by omega
    have hval := val_w hx.1 hx.2.1 hx.2.2 hu hzb
    have hz24 : z ≤ 24 := by omega
    have ez : wrap64 (z + 1) = z + 1 := w32k (by clear hval; omega) (by clear hval; omega)
    by_cases h : x.f0 * u * u + x.f1 * u * z + x.f2 * z * z = (m : Int)
    · rw [show hit m x u z = 1 from by unfold hit; rw [if_pos h]] at hrec
      refine Ev.step (fun k => ?_) hrec
      simp only [galoistop_TopRepresented.l2]
      rw [if_pos hz24, hval, if_pos h, ez]
      rw [show wrap64 (((X + S (fun j => hit m x u ((j : Nat) - 24 : Int)) j : Nat) : Int) + 1) = ((X + (S (fun j => hit m x u ((j : Nat) - 24 : Int)) j + 1) : Nat) : Int) from by clear hval ez; rw [w32k (by omega) (by omega)]; omega]
    · rw [show hit m x u z = 0 from by unfold hit; rw [if_neg h]] at hrec
      refine Ev.step (fun k => ?_) hrec
      simp only [galoistop_TopRepresented.l2]
      rw [if_pos hz24, hval, if_neg h, ez]
      rfl

/-- The loop over x. -/
theorem rep_l1 {D m : Nat} (l : List S31) (i : Nat) (hi : i ≤ 1000000) (x : S31) (hx : SmallF x) (X : Nat) (hX : X ≤ 9000000) (v : Bool)
    (hend : Ev (fun k => galoistop_TopRepresented.l0 k (-(D : Int)) m l (X + nF m x : Nat) (i + 1 : Nat)) v) (d : Nat) : ∀ j : Nat, j + d = 49 →
    Ev (fun k => galoistop_TopRepresented.l1 k (-(D : Int)) m l (X + S (fun i => S (fun j => hit m x ((i : Nat) - 24 : Int) ((j : Nat) - 24 : Int)) 49) j : Nat) i ((j : Int) - 24) x.f0 x.f1 x.f2) v := by
  induction d with
  | zero =>
    intro j hj
    obtain rfl : j = 49 := by omega
    refine Ev.step (fun k => ?_) hend
    simp only [galoistop_TopRepresented.l1]
    rw [if_neg (by omega), show wrap64 ((i : Int) + 1) = ((i + 1 : Nat) : Int) from w32k (by omega) (by omega)]
    rfl
  | succ d ih =>
    intro j hj
    have hrec := ih (j + 1) (by omega)
    have hb : S (fun i => S (fun j => hit m x ((i : Nat) - 24 : Int) ((j : Nat) - 24 : Int)) 49) j ≤ 2401 := by
      refine Nat.le_trans (Rep.S_bd _ j 49 (fun i _ => Rep.S_bd _ 49 1 (fun j _ => hit_le m x _ _))) ?_
      omega
    rw [Recip.S_succ] at hrec
    have ej : (((j + 1 : Nat) : Int) - 24) = (j : Int) - 24 + 1 := by omega
    rw [ej, ← Nat.add_assoc] at hrec
    have := rep_l2 l i x hx ((j : Int) - 24) (by omega) _ (by omega) v hrec 49 0 (by omega)
    rw [Recip.S_zero, Nat.add_zero] at this
    refine Ev.step (fun k => ?_) this
    simp only [galoistop_TopRepresented.l1]
    rw [if_pos (by omega)]
    rfl

/-- The loop over the forms. -/
theorem rep_l0 {D m : Nat} (l : List S31) (hl : l.length ≤ 10000) (hs : ∀ x ∈ l, SmallF x) (v : Bool) (tot : Nat) (htot : tot ≤ 8000000) (w : Nat) (hw : (w : Int) = if (-(D : Int)) = (-3) then 6 else if (-(D : Int)) = (-4) then 4 else 2)
    (hend : Ev (fun k => galoistop_TopRepresented.j4 k (-(D : Int)) m tot w) v) (d : Nat) : ∀ (i X : Nat), i + d = l.length → X + wsum (nF m) (l.drop i) = tot →
    Ev (fun k => galoistop_TopRepresented.l0 k (-(D : Int)) m l X i) v := by
  induction d with
  | zero =>
    intro i X hi hX
    rw [List.drop_of_length_le (by omega)] at hX
    obtain rfl : X = tot := by simpa [wsum] using hX
    refine Ev.step (fun k => ?_) hend
    simp only [galoistop_TopRepresented.l0]
    rw [if_neg (by omega), hw]
    split
    · rfl
    · split <;> rfl
  | succ d ih =>
    intro i X hi hX
    have hlt : i < l.length := by omega
    have hdrop : l.drop i = rd_T31 l i :: l.drop (i + 1) := by
      rw [List.drop_eq_getElem_cons hlt]
      unfold rd_T31
      simp [List.getD_eq_getElem?_getD, List.getElem?_eq_getElem hlt]
    have hmem : rd_T31 l i ∈ l := by
      have : rd_T31 l i ∈ l.drop i := by rw [hdrop]; simp
      exact List.mem_of_mem_drop this
    rw [hdrop, wsum] at hX
    have hrec := ih (i + 1) (X + nF m (rd_T31 l i)) (by omega) (by omega)
    have := rep_l1 l i (by omega) (rd_T31 l i) (hs _ hmem) X (by omega) v hrec 49 0 (by omega)
    rw [Recip.S_zero, Nat.add_zero] at this
    refine Ev.step (fun k => ?_) this
    simp only [galoistop_TopRepresented.l0]
    rw [if_pos (by omega), if_pos (by omega)]
    rfl

/-- What the last loop takes away. -/
def RI (D w m : Nat) : Nat → Int
  | 0 => 0
  | n + 1 => RI D w m n + (if (n + 1) ∣ m then (w : Int) * T D (n + 1) else 0)
theorem RI_bound (D w m : Nat) (hw : w ≤ 6) : ∀ n : Nat, -(6 * (n : Int)) ≤ RI D w m n ∧ RI D w m n ≤ 6 * (n : Int)
  | 0 => by simp [RI]
  | n + 1 => by
    obtain ⟨h1, h2⟩ := RI_bound D w m hw n
    rw [RI]
    split
    · rcases T_range D (n + 1) with h | h | h <;> rw [h] <;> omega
    · omega
theorem RI_sum (D w m : Nat) : ∀ n, RI D w m n = (w : Int) * (S (fun k => if T D (k + 1) = 1 ∧ (k + 1) ∣ m then 1 else 0) n : Nat) - (w : Int) * (S (fun k => if T D (k + 1) = -1 ∧ (k + 1) ∣ m then 1 else 0) n : Nat)
  | 0 => by simp [RI, Recip.S_zero]
  | n + 1 => by
    rw [RI, RI_sum D w m n, Recip.S_succ, Recip.S_succ, Int.natCast_add, Int.natCast_add, Int.mul_add, Int.mul_add]
    by_cases hd : (n + 1) ∣ m
    · rcases T_range D (n + 1) with h | h | h <;> simp [h, hd] <;> omega
    · simp [hd]

theorem rep_l3 {D m : Nat} (hS : Shape D) (h3 : 3 ≤ D) (hD : D ≤ 10000) (h1 : 1 ≤ m) (hm : m ≤ 300) (w tot : Nat) (hw : w ≤ 6) (htot : tot ≤ 8000000) (hfin : RI D w m m = tot) (d : Nat) : ∀ n : Nat, n + d = m →
    Ev (fun k => galoistop_TopRepresented.l3 k (-(D : Int)) m ((tot : Int) - RI D w m n) w (n + 1 : Nat)) true := by
  induction d with
  | zero =>
    intro n hn
    obtain rfl : n = m := by omega
    refine Ev.step (f := fun k => (galoistop_wideForms.f k).bind fun t => some t) (fun k => ?_) (Ev.bind wideR (Ev.now _))
    simp only [galoistop_TopRepresented.l3]
    rw [if_neg (by omega), if_pos (by omega)]
  | succ d ih =>
    intro n hn
    have hrec := ih (n + 1) (by omega)
    have hb := RI_bound D w m hw (n + 1)
    have et : Int.tmod (m : Int) ((n + 1 : Nat) : Int) = 0 ↔ (n + 1) ∣ m := by
      rw [tmod_nat, Nat.dvd_iff_mod_eq_zero]; omega
    have en : wrap64 (((n + 1 : Nat) : Int) + 1) = ((n + 1 + 1 : Nat) : Int) := by clear et; exact w32k (by omega) (by omega)
    have cle : ((n + 1 : Nat) : Int) ≤ (m : Int) := by clear et en; omega
    have cne : ¬ ((n + 1 : Nat) : Int) = 0 := by clear et en; omega
    by_cases hd : (n + 1) ∣ m
    · refine Ev.step (f := fun k => (quadratic_Kronecker.f k (-(D : Int)) (n + 1 : Nat)).bind fun bt177 => if bt177.2 = 0 then galoistop_TopRepresented.l3 k (-(D : Int)) m (wrap64 ((tot : Int) - RI D w m n - wrap64 ((w : Int) * bt177.1))) w (wrap64 (((n + 1 : Nat) : Int) + 1)) else some false) (fun k => ?_) (Ev.bind (kron hS h3 hD (n + 1) (by omega) (by clear en et; omega)) ?_)
      · simp only [galoistop_TopRepresented.l3]
        rw [if_pos cle, if_neg cne, if_pos (et.mpr hd)]
      · refine hrec.congr (fun k => ?_)
        have e1 : wrap64 ((w : Int) * T D (n + 1)) = (w : Int) * T D (n + 1) := by
          clear en et
          rcases T_range D (n + 1) with h | h | h <;> rw [h] <;> exact w32k (by omega) (by omega)
        have eR : (tot : Int) - RI D w m n - (w : Int) * T D (n + 1) = (tot : Int) - RI D w m (n + 1) := by
          rw [RI, if_pos hd]; omega
        simp only [if_true]
        rw [e1, eR, en, show wrap64 ((tot : Int) - RI D w m (n + 1)) = (tot : Int) - RI D w m (n + 1) from by clear e1 eR en et; exact w32k (by omega) (by omega)]
    · have eR : RI D w m (n + 1) = RI D w m n := by rw [RI, if_neg hd, Int.add_zero]
      rw [eR] at hrec
      refine Ev.step (fun k => ?_) hrec
      simp only [galoistop_TopRepresented.l3]
      rw [if_pos cle, if_neg cne, if_neg (fun h => hd (et.mp h)), en]

theorem rsays {D : Nat} (h3 : 3 ≤ D) (hD : D ≤ 2000) (hS : Shape D) : Rep.Says D := by
  obtain ⟨s1, s2, s3, s4⟩ := Rep.rep_sound (by omega) (Rep.run_all D h3 hD)
  rcases hS with ⟨h, hn⟩ | ⟨h0, hn, hne⟩
  · exact s1 h hn
  · have h4 : ¬ D / 4 % 4 = 0 := fun h => hn 2 (by omega) (Nat.dvd_of_mod_eq_zero h)
    by_cases c1 : D % 16 = 4
    · exact s2 c1 hn
    · have hn8 : Chk.Nosq (D / 8) := fun q hq hd => hn q hq (Nat.dvd_trans hd ⟨2, by omega⟩)
      by_cases c2 : D % 32 = 8
      · exact s3 c2 hn8
      · exact s4 (by omega) hn8

theorem wide_j0R (a0 a1 : Int) : Ev (fun k => galoistop_TopRepresented.j0 k a0 a1 true) true := by
  refine Ev.step (f := fun k => (galoistop_wideForms.f k).bind fun t => some t) (fun k => ?_) (Ev.bind wideR (Ev.now _))
  simp only [galoistop_TopRepresented.j0]
  rw [if_pos trivial]

theorem at_forms {D m : Nat} (h3 : 3 ≤ D) (hD : D ≤ 2000) (h1 : 1 ≤ m) (hm : m ≤ 300) (hS : Shape D) : Ev (fun k => galoistop_TopRepresented.l0 k (-(D : Int)) m (formsOf D) 0 0) true := by
  have hs := rsays h3 hD hS m h1 hm
  rw [← all_pts hD h1 hm] at hs
  have hw : Chk.units D ≤ 6 := by unfold Chk.units; cases Nat.beq D 3 <;> cases Nat.beq D 4 <;> simp
  have hwI : (Chk.units D : Int) = if (-(D : Int)) = (-3) then 6 else if (-(D : Int)) = (-4) then 4 else 2 := by
    unfold Chk.units
    rw [Chk.beq_dec, Chk.beq_dec]
    by_cases c3 : D = 3
    · rw [if_pos (by omega), decide_eq_true c3]; rfl
    · rw [if_neg (by omega), decide_eq_false c3]
      by_cases c4 : D = 4
      · rw [if_pos (by omega), decide_eq_true c4]; rfl
      · rw [if_neg (by omega), decide_eq_false c4]; rfl
  have htot : wsum (nF m) (formsOf D) ≤ 8000000 := by
    rw [all_pts hD h1 hm]
    have := Rep.phi_bd D (Rep.ind m) (fun v => by unfold Rep.ind; split <;> omega)
    omega
  have hlen : (formsOf D).length ≤ 10000 := by
    have := allF_len D (by omega) 58 1
    unfold formsOf; omega
  have hsm : ∀ x ∈ formsOf D, SmallF x := by
    intro x hx
    obtain ⟨a, _, hle, hmm⟩ := allF_mem hx
    have ha := le58 hle (by omega)
    obtain ⟨e0, e1, e2, e3, _⟩ := rowF_mem hmm
    have hc := cN_le (D := D) (a := a) (n := x.f1.natAbs) (by omega) (by omega)
    unfold SmallF
    omega
  have hcut : ∀ c : Int, S (fun k => if T D (k + 1) = c ∧ (k + 1) ∣ m then 1 else 0) 300 = S (fun k => if T D (k + 1) = c ∧ (k + 1) ∣ m then 1 else 0) m := by
    intro c
    refine Chk.S_cut _ _ _ hm ?_
    intro i hi _
    rw [if_neg]
    intro h
    have := Nat.le_of_dvd (by omega) h.2
    omega
  have hfin : RI D (Chk.units D) m m = (wsum (nF m) (formsOf D) : Nat) := by
    rw [hcut, hcut] at hs
    rw [RI_sum, ← Int.natCast_mul, ← Int.natCast_mul, ← hs, Int.natCast_add]
    omega
  have l3 := rep_l3 hS h3 (by omega) h1 hm (Chk.units D) _ hw htot hfin m 0 (by omega)
  have e0 : (wsum (nF m) (formsOf D) : Int) - RI D (Chk.units D) m 0 = (wsum (nF m) (formsOf D) : Nat) := by simp [RI]
  rw [e0] at l3
  have j4 : Ev (fun k => galoistop_TopRepresented.j4 k (-(D : Int)) m (wsum (nF m) (formsOf D) : Nat) (Chk.units D : Nat)) true := by
    refine Ev.step (fun k => ?_) l3
    simp only [galoistop_TopRepresented.j4]
    rfl
  exact rep_l0 (formsOf D) hlen hsm true _ htot (Chk.units D) hwI j4 (formsOf D).length 0 0 (by omega) (by rw [List.drop_zero]; omega)

/-- The principal form. -/
theorem forms_ne {D : Nat} (h3 : 3 ≤ D) (hS : Shape D) : formsOf D ≠ [] := by
  have hok : okI D 1 0 = true ∨ okI D 1 1 = true := by
    unfold okI
    rw [good_iff, good_iff]
    unfold cN
    rcases hS with ⟨h, _⟩ | ⟨h, _⟩
    · right
      simp
      omega
    · left
      simp
      omega
  intro hn
  have h := congrArg List.length hn
  rw [formsOf, allF, if_pos (by omega), List.length_append] at h
  have e : (rowF D 1 (2 * 1 + 1)).length = 0 := by simp only [List.length_nil] at h; omega
  rw [show 2 * 1 + 1 = 2 + 1 from rfl, rowF, List.length_append, rowF, List.length_append, rowF, List.length_append] at e
  rw [show ((1 : Nat) : Int) - ((1 : Nat) : Int) = 0 from rfl, show ((1 : Nat) : Int) - ((0 : Nat) : Int) = 1 from rfl] at e
  rcases hok with hok | hok
  · rw [if_pos hok] at e
    simp only [List.length_cons] at e
    omega
  · rw [if_pos hok] at e
    simp only [List.length_cons] at e
    omega

theorem at_fundR {D m : Nat} (h3 : 3 ≤ D) (hD : D ≤ 2000) (h1 : 1 ≤ m) (hm : m ≤ 300) : Ev (fun k => galoistop_TopRepresented.f k (-(D : Int)) m) true := by
  obtain ⟨b, hb1, hb2, hb3⟩ := fund D h3 (by omega)
  refine Ev.congr (f := fun k => (galoisref50_IsFundamental.f k (-(D : Int))).bind fun t => galoistop_TopRepresented.j0 k (-(D : Int)) m (!t)) (fun k => ?_) (Ev.bind hb1 ?_)
  · unfold galoistop_TopRepresented.f
    rw [if_neg (by omega), if_neg (by omega), if_neg (by omega), if_neg (by omega)]
  · cases b with
    | false => exact wide_j0R _ _
    | true =>
      have hS := hb3 rfl
      have hF := forms h3 (by omega) hb2 (forms_ne h3 hS)
      refine Ev.step (f := fun k => (quadratic_Forms.f k (-(D : Int))).bind fun bt170 => if bt170.2 = 0 then galoistop_TopRepresented.l0 k (-(D : Int)) m bt170.1 0 0 else some false) (fun k => ?_) (Ev.bind hF ?_)
      · simp only [galoistop_TopRepresented.j0]
        rw [if_neg (by simp)]
      · exact (at_forms h3 hD h1 hm hS).congr (fun k => by rw [if_pos rfl])

theorem TopRepresented : galoistop_TopRepresented.Pure := by
  intro a0 a1 _ _
  by_cases h1 : a0 > -3
  · refine Ev.rounds ((wide_j0R a0 a1).congr (fun k => ?_))
    unfold galoistop_TopRepresented.f
    rw [if_pos h1]
  · by_cases h2 : a0 < -2000
    · refine Ev.rounds ((wide_j0R a0 a1).congr (fun k => ?_))
      unfold galoistop_TopRepresented.f
      rw [if_neg h1, if_pos h2]
    · by_cases h3 : a1 < 1
      · refine Ev.rounds ((wide_j0R a0 a1).congr (fun k => ?_))
        unfold galoistop_TopRepresented.f
        rw [if_neg h1, if_neg h2, if_pos h3]
      · by_cases h4 : a1 > 300
        · refine Ev.rounds ((wide_j0R a0 a1).congr (fun k => ?_))
          unfold galoistop_TopRepresented.f
          rw [if_neg h1, if_neg h2, if_neg h3, if_pos h4]
        · obtain ⟨D, rfl⟩ : ∃ D : Nat, a0 = -(D : Int) := ⟨a0.natAbs, by omega⟩
          obtain ⟨m, rfl⟩ : ∃ m : Nat, a1 = (m : Int) := ⟨a1.natAbs, by omega⟩
          exact Ev.rounds (at_fundR (by omega) (by omega) (by omega) (by omega))

end Go.Proofs.Ytppdaagiofcmkaa.Pure
