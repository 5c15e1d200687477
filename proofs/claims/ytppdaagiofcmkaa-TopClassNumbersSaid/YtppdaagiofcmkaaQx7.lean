-- WRITTEN BY print2.py, this session's driver of the kit's printer, with hand-proved contracts among it.
import Derived.Test.YtppdaagiofcmkaaQx0
import Derived.Test.YtppdaagiofcmkaaQx2
import Derived.Test.YtppdaagiofcmkaaQx4
import Derived.Test.YtppdaagiofcmkaaQx5
import Derived.Test.YtppdaagiofcmkaaQx6
namespace Go.Proofs.Ytppdaagiofcmkaa.Q
open Go.RowKit Go.Proofs.YtppdaagiofcmkaaW.PrintWords Go.Proofs.YtppdaagiofcmkaaW.PrintLast Go.Proofs.YtppdaagiofcmkaaW.PrintMore
attribute [local go_sem] max2_int min2_int max_two min_two max_three min_three max_four min_four   -- for this text's walks alone
set_option linter.unusedVariables false
set_option linter.unusedSimpArgs false

/-! ### galoistop_TopClassNumbers: function 3 -/
mutual
def galoistop_TopClassNumbers.j0 : Nat → Int → Bool → Option (Bool)
  | 0, _, _ => none
  | k + 1, x0, x24 => if x24 = true then ((galoistop_wideForms.f k).bind fun t153 => (some t153)) else ((quadratic_Forms.f k x0).bind fun bt154 => (if bt154.2 = 0 then (if x0 = (-3) then (galoistop_TopClassNumbers.j1 k x0 bt154.1 6) else (if x0 = (-4) then (galoistop_TopClassNumbers.j1 k x0 bt154.1 4) else (galoistop_TopClassNumbers.j1 k x0 bt154.1 2))) else (some false)))
def galoistop_TopClassNumbers.j1 : Nat → Int → List (S31) → Int → Option (Bool)
  | 0, _, _, _ => none
  | k + 1, x0, x3, x5 => galoistop_TopClassNumbers.l0 k x0 x3 x5 0 1
def galoistop_TopClassNumbers.l0 : Nat → Int → List (S31) → Int → Int → Int → Option (Bool)
  | 0, _, _, _, _, _ => none
  | k + 1, x0, x3, x5, x6, x7 => if x7 ≤ (wrap64 (-x0)) then ((quadratic_Kronecker.f k x0 x7).bind fun bt158 => (if bt158.2 = 0 then (galoistop_TopClassNumbers.l0 k x0 x3 x5 (wrap64 (x6 - (wrap64 ((wrap64 (x7 * x5)) * bt158.1)))) (wrap64 (x7 + 1))) else (some false))) else (galoistop_TopClassNumbers.l1 k x0 x3 x6 0 1 0)
def galoistop_TopClassNumbers.l1 : Nat → Int → List (S31) → Int → Int → Int → Int → Option (Bool)
  | 0, _, _, _, _, _, _ => none
  | k + 1, x0, x3, x6, x10, x11, x12 => if x12 < (x3.length : Int) then (if 0 ≤ x12 then (if ((rd_T31 x3 x12).f1) = 0 then (galoistop_TopClassNumbers.l1 k x0 x3 x6 (wrap64 (x10 + 2)) x11 (wrap64 (x12 + 1))) else (if ((rd_T31 x3 x12).f1) = ((rd_T31 x3 x12).f0) then (galoistop_TopClassNumbers.l1 k x0 x3 x6 (wrap64 (x10 + 2)) x11 (wrap64 (x12 + 1))) else (if ((rd_T31 x3 x12).f0) = ((rd_T31 x3 x12).f2) then (galoistop_TopClassNumbers.l1 k x0 x3 x6 (wrap64 (x10 + 2)) x11 (wrap64 (x12 + 1))) else (galoistop_TopClassNumbers.l1 k x0 x3 x6 x10 x11 (wrap64 (x12 + 1)))))) else (none)) else (galoistop_TopClassNumbers.l2 k x0 x3 x6 x10 x11 2)
def galoistop_TopClassNumbers.l2 : Nat → Int → List (S31) → Int → Int → Int → Int → Option (Bool)
  | 0, _, _, _, _, _, _ => none
  | k + 1, x0, x3, x6, x10, x11, x13 => if x13 ≤ (wrap64 (-x0)) then (if x13 = 0 then (none) else (if (Int.tmod x0 x13) = 0 then ((galoisref04_IsPrime.f k x13).bind fun t165 => (if t165 = true then (galoistop_TopClassNumbers.l2 k x0 x3 x6 x10 (wrap64 (x11 * 2)) (wrap64 (x13 + 1))) else (galoistop_TopClassNumbers.l2 k x0 x3 x6 x10 x11 (wrap64 (x13 + 1))))) else (galoistop_TopClassNumbers.l2 k x0 x3 x6 x10 x11 (wrap64 (x13 + 1))))) else (if x6 = (wrap64 ((wrap64 ((-2) * x0)) * (x3.length : Int))) then (if x10 = x11 then ((galoistop_wideForms.f k).bind fun t166 => (some t166)) else (some false)) else (some false))
end
def galoistop_TopClassNumbers.f (k : Nat) (a0 : Int) : Option (Bool) := if a0 > (-3) then (galoistop_TopClassNumbers.j0 k a0 true) else (if a0 < (-10000) then (galoistop_TopClassNumbers.j0 k a0 true) else ((galoisref50_IsFundamental.f k a0).bind fun t152 => (galoistop_TopClassNumbers.j0 k a0 (!t152))))
theorem galoistop_TopClassNumbers.mono_l : ∀ k, (∀ y0 y1, LeO (galoistop_TopClassNumbers.j0 k y0 y1) (galoistop_TopClassNumbers.j0 (k + 1) y0 y1)) ∧ (∀ y0 y1 y2, LeO (galoistop_TopClassNumbers.j1 k y0 y1 y2) (galoistop_TopClassNumbers.j1 (k + 1) y0 y1 y2)) ∧ (∀ y0 y1 y2 y3 y4, LeO (galoistop_TopClassNumbers.l0 k y0 y1 y2 y3 y4) (galoistop_TopClassNumbers.l0 (k + 1) y0 y1 y2 y3 y4)) ∧ (∀ y0 y1 y2 y3 y4 y5, LeO (galoistop_TopClassNumbers.l1 k y0 y1 y2 y3 y4 y5) (galoistop_TopClassNumbers.l1 (k + 1) y0 y1 y2 y3 y4 y5)) ∧ (∀ y0 y1 y2 y3 y4 y5, LeO (galoistop_TopClassNumbers.l2 k y0 y1 y2 y3 y4 y5) (galoistop_TopClassNumbers.l2 (k + 1) y0 y1 y2 y3 y4 y5))
  | 0 => ⟨fun _ _ r h => by simp [galoistop_TopClassNumbers.j0] at h, fun _ _ _ r h => by simp [galoistop_TopClassNumbers.j1] at h, fun _ _ _ _ _ r h => by simp [galoistop_TopClassNumbers.l0] at h, fun _ _ _ _ _ _ r h => by simp [galoistop_TopClassNumbers.l1] at h, fun _ _ _ _ _ _ r h => by simp [galoistop_TopClassNumbers.l2] at h⟩
  | k + 1 => by
    obtain ⟨ih0, ih1, ih2, ih3, ih4⟩ := galoistop_TopClassNumbers.mono_l k
    refine ⟨?_, ?_, ?_, ?_, ?_⟩
    · intro y0 y1
      unfold galoistop_TopClassNumbers.j0
      repeat' first
      | (with_reducible exact ih0 _ _)
      | (with_reducible exact ih1 _ _ _)
      | (with_reducible exact ih2 _ _ _ _ _)
      | (with_reducible exact ih3 _ _ _ _ _ _)
      | (with_reducible exact ih4 _ _ _ _ _ _)
      | (with_reducible exact galoisref04_IsPrime.mono _ _)
      | (with_reducible exact galoisref50_IsFundamental.mono _ _)
      | (with_reducible exact galoistop_wideForms.mono _)
      | (with_reducible exact quadratic_Forms.mono _ _)
      | (with_reducible exact quadratic_Kronecker.mono _ _ _)
      | (with_reducible exact LeO.refl _)
      | (with_reducible exact LeO.none _)
      | (with_reducible refine LeO.ite ?_ ?_)
      | (with_reducible refine LeO.bind ?_ (fun _ => ?_))
      | exact ih0 _ _
      | exact ih1 _ _ _
      | exact ih2 _ _ _ _ _
      | exact ih3 _ _ _ _ _ _
      | exact ih4 _ _ _ _ _ _
      | exact galoisref04_IsPrime.mono _ _
      | exact galoisref50_IsFundamental.mono _ _
      | exact galoistop_wideForms.mono _
      | exact quadratic_Forms.mono _ _
      | exact quadratic_Kronecker.mono _ _ _
      | exact LeO.none _
      | refine LeO.ite ?_ ?_
      | refine LeO.bind ?_ (fun _ => ?_)
    · intro y0 y1 y2
      unfold galoistop_TopClassNumbers.j1
      repeat' first
      | (with_reducible exact ih0 _ _)
      | (with_reducible exact ih1 _ _ _)
      | (with_reducible exact ih2 _ _ _ _ _)
      | (with_reducible exact ih3 _ _ _ _ _ _)
      | (with_reducible exact ih4 _ _ _ _ _ _)
      | (with_reducible exact galoisref04_IsPrime.mono _ _)
      | (with_reducible exact galoisref50_IsFundamental.mono _ _)
      | (with_reducible exact galoistop_wideForms.mono _)
      | (with_reducible exact quadratic_Forms.mono _ _)
      | (with_reducible exact quadratic_Kronecker.mono _ _ _)
      | (with_reducible exact LeO.refl _)
      | (with_reducible exact LeO.none _)
      | (with_reducible refine LeO.ite ?_ ?_)
      | (with_reducible refine LeO.bind ?_ (fun _ => ?_))
      | exact ih0 _ _
      | exact ih1 _ _ _
      | exact ih2 _ _ _ _ _
      | exact ih3 _ _ _ _ _ _
      | exact ih4 _ _ _ _ _ _
      | exact galoisref04_IsPrime.mono _ _
      | exact galoisref50_IsFundamental.mono _ _
      | exact galoistop_wideForms.mono _
      | exact quadratic_Forms.mono _ _
      | exact quadratic_Kronecker.mono _ _ _
      | exact LeO.none _
      | refine LeO.ite ?_ ?_
      | refine LeO.bind ?_ (fun _ => ?_)
    · intro y0 y1 y2 y3 y4
      unfold galoistop_TopClassNumbers.l0
      repeat' first
      | (with_reducible exact ih0 _ _)
      | (with_reducible exact ih1 _ _ _)
      | (with_reducible exact ih2 _ _ _ _ _)
      | (with_reducible exact ih3 _ _ _ _ _ _)
      | (with_reducible exact ih4 _ _ _ _ _ _)
      | (with_reducible exact galoisref04_IsPrime.mono _ _)
      | (with_reducible exact galoisref50_IsFundamental.mono _ _)
      | (with_reducible exact galoistop_wideForms.mono _)
      | (with_reducible exact quadratic_Forms.mono _ _)
      | (with_reducible exact quadratic_Kronecker.mono _ _ _)
      | (with_reducible exact LeO.refl _)
      | (with_reducible exact LeO.none _)
      | (with_reducible refine LeO.ite ?_ ?_)
      | (with_reducible refine LeO.bind ?_ (fun _ => ?_))
      | exact ih0 _ _
      | exact ih1 _ _ _
      | exact ih2 _ _ _ _ _
      | exact ih3 _ _ _ _ _ _
      | exact ih4 _ _ _ _ _ _
      | exact galoisref04_IsPrime.mono _ _
      | exact galoisref50_IsFundamental.mono _ _
      | exact galoistop_wideForms.mono _
      | exact quadratic_Forms.mono _ _
      | exact quadratic_Kronecker.mono _ _ _
      | exact LeO.none _
      | refine LeO.ite ?_ ?_
      | refine LeO.bind ?_ (fun _ => ?_)
    · intro y0 y1 y2 y3 y4 y5
      unfold galoistop_TopClassNumbers.l1
      repeat' first
      | (with_reducible exact ih0 _ _)
      | (with_reducible exact ih1 _ _ _)
      | (with_reducible exact ih2 _ _ _ _ _)
      | (with_reducible exact ih3 _ _ _ _ _ _)
      | (with_reducible exact ih4 _ _ _ _ _ _)
      | (with_reducible exact galoisref04_IsPrime.mono _ _)
      | (with_reducible exact galoisref50_IsFundamental.mono _ _)
      | (with_reducible exact galoistop_wideForms.mono _)
      | (with_reducible exact quadratic_Forms.mono _ _)
      | (with_reducible exact quadratic_Kronecker.mono _ _ _)
      | (with_reducible exact LeO.refl _)
      | (with_reducible exact LeO.none _)
      | (with_reducible refine LeO.ite ?_ ?_)
      | (with_reducible refine LeO.bind ?_ (fun _ => ?_))
      | exact ih0 _ _
      | exact ih1 _ _ _
      | exact ih2 _ _ _ _ _
      | exact ih3 _ _ _ _ _ _
      | exact ih4 _ _ _ _ _ _
      | exact galoisref04_IsPrime.mono _ _
      | exact galoisref50_IsFundamental.mono _ _
      | exact galoistop_wideForms.mono _
      | exact quadratic_Forms.mono _ _
      | exact quadratic_Kronecker.mono _ _ _
      | exact LeO.none _
      | refine LeO.ite ?_ ?_
      | refine LeO.bind ?_ (fun _ => ?_)
    · intro y0 y1 y2 y3 y4 y5
      unfold galoistop_TopClassNumbers.l2
      repeat' first
      | (with_reducible exact ih0 _ _)
      | (with_reducible exact ih1 _ _ _)
      | (with_reducible exact ih2 _ _ _ _ _)
      | (with_reducible exact ih3 _ _ _ _ _ _)
      | (with_reducible exact ih4 _ _ _ _ _ _)
      | (with_reducible exact galoisref04_IsPrime.mono _ _)
      | (with_reducible exact galoisref50_IsFundamental.mono _ _)
      | (with_reducible exact galoistop_wideForms.mono _)
      | (with_reducible exact quadratic_Forms.mono _ _)
      | (with_reducible exact quadratic_Kronecker.mono _ _ _)
      | (with_reducible exact LeO.refl _)
      | (with_reducible exact LeO.none _)
      | (with_reducible refine LeO.ite ?_ ?_)
      | (with_reducible refine LeO.bind ?_ (fun _ => ?_))
      | exact ih0 _ _
      | exact ih1 _ _ _
      | exact ih2 _ _ _ _ _
      | exact ih3 _ _ _ _ _ _
      | exact ih4 _ _ _ _ _ _
      | exact galoisref04_IsPrime.mono _ _
      | exact galoisref50_IsFundamental.mono _ _
      | exact galoistop_wideForms.mono _
      | exact quadratic_Forms.mono _ _
      | exact quadratic_Kronecker.mono _ _ _
      | exact LeO.none _
      | refine LeO.ite ?_ ?_
      | refine LeO.bind ?_ (fun _ => ?_)
theorem galoistop_TopClassNumbers.mono : ∀ a0 k, LeO (galoistop_TopClassNumbers.f k a0) (galoistop_TopClassNumbers.f (k + 1) a0) := by
  intro a0 k
  obtain ⟨ih0, ih1, ih2, ih3, ih4⟩ := galoistop_TopClassNumbers.mono_l k
  unfold galoistop_TopClassNumbers.f
  repeat' first
      | (with_reducible exact ih0 _ _)
      | (with_reducible exact ih1 _ _ _)
      | (with_reducible exact ih2 _ _ _ _ _)
      | (with_reducible exact ih3 _ _ _ _ _ _)
      | (with_reducible exact ih4 _ _ _ _ _ _)
      | (with_reducible exact galoisref04_IsPrime.mono _ _)
      | (with_reducible exact galoisref50_IsFundamental.mono _ _)
      | (with_reducible exact galoistop_wideForms.mono _)
      | (with_reducible exact quadratic_Forms.mono _ _)
      | (with_reducible exact quadratic_Kronecker.mono _ _ _)
      | (with_reducible exact LeO.refl _)
      | (with_reducible exact LeO.none _)
      | (with_reducible refine LeO.ite ?_ ?_)
      | (with_reducible refine LeO.bind ?_ (fun _ => ?_))
      | exact ih0 _ _
      | exact ih1 _ _ _
      | exact ih2 _ _ _ _ _
      | exact ih3 _ _ _ _ _ _
      | exact ih4 _ _ _ _ _ _
      | exact galoisref04_IsPrime.mono _ _
      | exact galoisref50_IsFundamental.mono _ _
      | exact galoistop_wideForms.mono _
      | exact quadratic_Forms.mono _ _
      | exact quadratic_Kronecker.mono _ _ _
      | exact LeO.none _
      | refine LeO.ite ?_ ?_
      | refine LeO.bind ?_ (fun _ => ?_)
set_option maxHeartbeats 8000000 in
set_option maxRecDepth 100000 in
theorem galoistop_TopClassNumbers.calls (k : Nat) (a0 : Int) (r : Bool) (w : World) (h : galoistop_TopClassNumbers.f k a0 = some r) :
    Calls Try.prog 3 #[.int .i64 a0] w fun e w' => e = .returned (.bool r) ∧ Below w.heap.size w w' := by
  have HB := Aside0.mk (Below.refl w.heap.size w)
  have H : (if a0 > (-3) then (galoistop_TopClassNumbers.j0 k a0 true) else (if a0 < (-10000) then (galoistop_TopClassNumbers.j0 k a0 true) else ((galoisref50_IsFundamental.f k a0).bind fun t152 => (galoistop_TopClassNumbers.j0 k a0 (!t152))))) = some r := h
  clear h
  have HC2 := Aside0.mk H
  clear H
  go_enter Try.func3, Try.ntmps3
  go_upto_region 1 with (fail)
  repeat (go_quiet (fail); go_upto_region 1 with (fail))
  go_cut [24] (fun v24 wc => ∃ (kq : Nat) (x24_1 : Bool), v24 = .bool x24_1 ∧ Aside0 (galoistop_TopClassNumbers.j0 kq a0 x24_1 = some r) ∧ Aside0 (kq ≤ k) ∧ Aside0 (Below w.heap.size w wc))
  case first =>
    have H := HC2.out
    clear HC2
    by_cases c3 : a0 > (-3)
    · rw [if_pos c3] at H
      have c3b0 : decide ((-3) < a0) = true := decide_eq_true c3
      clear c3
      (first | rw [c3b0] | (simp only [i64_w, i32_w]; rw [c3b0]) | skip)
      have H' := Aside0.mk H
      clear H
      go_wp2
      repeat (go_quiet (fail); try go_wp2)
      go_meet
      case rel => exact ⟨_, (true), (by first | rfl | (simp; done) | (simp [*]; done)), H', ⟨by first | omega | exact Nat.le_refl _⟩, ⟨by repeat (first | (with_reducible first | exact HB.out | apply below_alloc | apply pw_below_drewN | apply below_drew1) | exact HB.out)⟩⟩
    · rw [if_neg c3] at H
      have c3b0 : decide ((-3) < a0) = false := decide_eq_false c3
      clear c3
      (first | rw [c3b0] | (simp only [i64_w, i32_w]; rw [c3b0]) | skip)
      by_cases c4 : a0 < (-10000)
      · rw [if_pos c4] at H
        have c4b0 : decide (a0 < (-10000)) = true := decide_eq_true c4
        clear c4
        have H' := Aside0.mk H
        clear H
        go_wp2
        repeat (go_quiet (fail); try go_wp2)
        go_meet
        case rel => exact ⟨_, (true), (by first | rfl | (simp; done) | (simp [*]; done)), H', ⟨by first | omega | exact Nat.le_refl _⟩, ⟨by repeat (first | (with_reducible first | exact HB.out | apply below_alloc | apply pw_below_drewN | apply below_drew1) | exact HB.out)⟩⟩
      · rw [if_neg c4] at H
        have c4b0 : decide (a0 < (-10000)) = false := decide_eq_false c4
        clear c4
        replace H := Option.bind_eq_some_iff.mp H
        obtain ⟨t152, A50, H⟩ := H
        replace H : (galoistop_TopClassNumbers.j0 k a0 (!t152)) = some r := H
        have A5 := Aside0.mk A50
        clear A50
        have H' := Aside0.mk H
        clear H
        go_wp2_with (first | (go_at_call 5; (with_reducible refine (galoisref50_IsFundamental.calls k a0 t152 _ A5.out).mono ?_); rintro e w6 ⟨rfl, hb⟩; have n0_ := Aside0.mk (below_step (by repeat (first | (with_reducible first | exact HB.out | apply below_alloc | apply pw_below_drewN | apply below_drew1) | exact HB.out)) hb); clear HB; have HB := n0_; clear n0_; (try clear hb); (try clear hb2); (try clear hk); (try clear hi)))
        repeat (go_quiet (first | (go_at_call 5; (with_reducible refine (galoisref50_IsFundamental.calls k a0 t152 _ A5.out).mono ?_); rintro e w6 ⟨rfl, hb⟩; have n0_ := Aside0.mk (below_step (by repeat (first | (with_reducible first | exact HB.out | apply below_alloc | apply pw_below_drewN | apply below_drew1) | exact HB.out)) hb); clear HB; have HB := n0_; clear n0_; (try clear hb); (try clear hb2); (try clear hk); (try clear hi))); try go_wp2_with (first | (go_at_call 5; (with_reducible refine (galoisref50_IsFundamental.calls k a0 t152 _ A5.out).mono ?_); rintro e w6 ⟨rfl, hb⟩; have n0_ := Aside0.mk (below_step (by repeat (first | (with_reducible first | exact HB.out | apply below_alloc | apply pw_below_drewN | apply below_drew1) | exact HB.out)) hb); clear HB; have HB := n0_; clear n0_; (try clear hb); (try clear hb2); (try clear hk); (try clear hi))))
        go_meet
        case rel => exact ⟨_, (!t152), (by first | rfl | (simp; done) | (simp [*]; done)), H', ⟨by first | omega | exact Nat.le_refl _⟩, ⟨by repeat (first | (with_reducible first | exact HB.out | apply below_alloc | apply pw_below_drewN | apply below_drew1) | exact HB.out)⟩⟩
  case rest =>
    clear HC2
    try clear p2
    try clear c3
    try clear c3b0
    try clear c4
    try clear c4b0
    obtain ⟨kq, x24_1, rfl, HA, HJ1, HB⟩ := hcut
    cases kq with
    | zero => exact absurd HA.out (by simp [galoistop_TopClassNumbers.j0])
    | succ kj1 =>
      have H := HA.out
      clear HA
      simp only [galoistop_TopClassNumbers.j0] at H
      by_cases c7 : x24_1 = true
      · subst c7
        have H1 : ((galoistop_wideForms.f kj1).bind fun t153 => (some t153)) = some r := by rw [if_pos rfl] at H; exact H
        clear H
        have H := H1
        clear H1
        replace H := Option.bind_eq_some_iff.mp H
        obtain ⟨t153, A80, H⟩ := H
        replace H : (some t153) = some r := H
        have A8 := Aside0.mk A80
        clear A80
        obtain rfl := Option.some.inj H
        go_wp2_with (first | (go_at_call 6; (with_reducible refine (galoistop_wideForms.calls kj1  t153 _ A8.out).mono ?_); rintro e w9 ⟨rfl, hb⟩; have n0_ := Aside0.mk (below_step (by repeat (first | (with_reducible first | exact HB.out | apply below_alloc | apply pw_below_drewN | apply below_drew1) | exact HB.out)) hb); clear HB; have HB := n0_; clear n0_; (try clear hb); (try clear hb2); (try clear hk); (try clear hi)))
        repeat (go_quiet (first | (go_at_call 6; (with_reducible refine (galoistop_wideForms.calls kj1  t153 _ A8.out).mono ?_); rintro e w9 ⟨rfl, hb⟩; have n0_ := Aside0.mk (below_step (by repeat (first | (with_reducible first | exact HB.out | apply below_alloc | apply pw_below_drewN | apply below_drew1) | exact HB.out)) hb); clear HB; have HB := n0_; clear n0_; (try clear hb); (try clear hb2); (try clear hk); (try clear hi))); try go_wp2_with (first | (go_at_call 6; (with_reducible refine (galoistop_wideForms.calls kj1  t153 _ A8.out).mono ?_); rintro e w9 ⟨rfl, hb⟩; have n0_ := Aside0.mk (below_step (by repeat (first | (with_reducible first | exact HB.out | apply below_alloc | apply pw_below_drewN | apply below_drew1) | exact HB.out)) hb); clear HB; have HB := n0_; clear n0_; (try clear hb); (try clear hb2); (try clear hk); (try clear hi))))
        go_ret
        exact ⟨by first | rfl | (simp [errW_none, errW_some] <;> rfl) | (simp [*, errW_none, errW_some] <;> rfl), by repeat (first | (with_reducible first | exact HB.out | apply below_alloc | apply pw_below_drewN | apply below_drew1) | exact HB.out)⟩
      · replace c7 := Bool.eq_false_iff.mpr c7
        subst c7
        have H1 : ((quadratic_Forms.f kj1 a0).bind fun bt154 => (if bt154.2 = 0 then (if a0 = (-3) then (galoistop_TopClassNumbers.j1 kj1 a0 bt154.1 6) else (if a0 = (-4) then (galoistop_TopClassNumbers.j1 kj1 a0 bt154.1 4) else (galoistop_TopClassNumbers.j1 kj1 a0 bt154.1 2))) else (some false))) = some r := by rw [if_neg (show ¬ (false = true) by decide)] at H; exact H
        clear H
        have H := H1
        clear H1
        replace H := Option.bind_eq_some_iff.mp H
        obtain ⟨⟨t154, t155⟩, A100, H⟩ := H
        replace H : (if t155 = 0 then (if a0 = (-3) then (galoistop_TopClassNumbers.j1 kj1 a0 t154 6) else (if a0 = (-4) then (galoistop_TopClassNumbers.j1 kj1 a0 t154 4) else (galoistop_TopClassNumbers.j1 kj1 a0 t154 2))) else (some false)) = some r := H
        have A10 := Aside0.mk A100
        clear A100
        by_cases c11 : t155 = 0
        · rw [if_pos c11] at H
          have c11b0 : (t155 == 0) = true := beq_iff_eq.mpr c11
          have c11b1 : (t155 != 0) = false := bne_eq_false_iff_eq.mpr c11
          clear c11
          have HC12 := Aside0.mk H
          clear H
          go_upto_if 34 with (first | (go_at_call 7; (with_reducible refine (quadratic_Forms.calls kj1 a0 t154 t155 _ A10.out).mono ?_); rintro e w13 ⟨v156, rfl, ho0, hb⟩; have n0_ := Aside0.mk (Kd.R_lower ho0 (below_size (by repeat (first | (with_reducible first | exact HB.out | apply below_alloc | apply pw_below_drewN | apply below_drew1) | exact HB.out)))); have n1_ := Aside0.mk (below_step (by repeat (first | (with_reducible first | exact HB.out | apply below_alloc | apply pw_below_drewN | apply below_drew1) | exact HB.out)) hb); clear HB; have HO157 := n0_; have HB := n1_; clear n0_ n1_; (try clear hb); (try clear hb2); (try clear hk); (try clear hi); (try clear ho0)))
          repeat (go_quiet (first | (go_at_call 7; (with_reducible refine (quadratic_Forms.calls kj1 a0 t154 t155 _ A10.out).mono ?_); rintro e w13 ⟨v156, rfl, ho0, hb⟩; have n0_ := Aside0.mk (Kd.R_lower ho0 (below_size (by repeat (first | (with_reducible first | exact HB.out | apply below_alloc | apply pw_below_drewN | apply below_drew1) | exact HB.out)))); have n1_ := Aside0.mk (below_step (by repeat (first | (with_reducible first | exact HB.out | apply below_alloc | apply pw_below_drewN | apply below_drew1) | exact HB.out)) hb); clear HB; have HO157 := n0_; have HB := n1_; clear n0_ n1_; (try clear hb); (try clear hb2); (try clear hk); (try clear hi); (try clear ho0))); go_upto_if 34 with (first | (go_at_call 7; (with_reducible refine (quadratic_Forms.calls kj1 a0 t154 t155 _ A10.out).mono ?_); rintro e w13 ⟨v156, rfl, ho0, hb⟩; have n0_ := Aside0.mk (Kd.R_lower ho0 (below_size (by repeat (first | (with_reducible first | exact HB.out | apply below_alloc | apply pw_below_drewN | apply below_drew1) | exact HB.out)))); have n1_ := Aside0.mk (below_step (by repeat (first | (with_reducible first | exact HB.out | apply below_alloc | apply pw_below_drewN | apply below_drew1) | exact HB.out)) hb); clear HB; have HO157 := n0_; have HB := n1_; clear n0_ n1_; (try clear hb); (try clear hb2); (try clear hk); (try clear hi); (try clear ho0))))
          (try simp only [Act.put, List.setIfInBounds_toArray, List.set_cons_zero, List.set_cons_succ])
          go_cut [5] (fun v5 wc => ∃ (kq : Nat) (x5_11 : Int), v5 = .int .i64 x5_11 ∧ Aside0 (galoistop_TopClassNumbers.j1 kq a0 t154 x5_11 = some r) ∧ Aside0 (kq ≤ kj1) ∧ Aside0 (Kd.R k31 31 wc w.heap.size (fun _ => True) v156 t154) ∧ Aside0 (Below w.heap.size w wc))
          case first =>
            have H := HC12.out
            clear HC12
            by_cases c14 : a0 = (-3)
            · rw [if_pos c14] at H
              have c14b0 : (a0 == (-3)) = true := beq_iff_eq.mpr c14
              have c14b1 : (a0 != (-3)) = false := bne_eq_false_iff_eq.mpr c14
              clear c14
              (first | rw [c14b0] | (simp only [i64_w, i32_w]; rw [c14b0]) | skip)
              have H' := Aside0.mk H
              clear H
              go_wp2
              repeat (go_quiet (fail); try go_wp2)
              go_meet
              case rel => exact ⟨_, (6), (by first | rfl | (simp; done) | (simp [*]; done)), H', ⟨by have := HJ1.out; first | omega | exact Nat.le_refl _⟩, ⟨by (with_reducible repeat (first | apply Kd.R_alloc | apply Kd.R_drewN | apply Kd.R_drew)); exact HO157.out⟩, ⟨by repeat (first | (with_reducible first | exact HB.out | apply below_alloc | apply pw_below_drewN | apply below_drew1) | exact HB.out)⟩⟩
            · rw [if_neg c14] at H
              have c14b0 : (a0 == (-3)) = false := beq_eq_false_iff_ne.mpr c14
              have c14b1 : (a0 != (-3)) = true := bne_iff_ne.mpr c14
              (first | rw [c14b0] | (simp only [i64_w, i32_w]; rw [c14b0]) | skip)
              by_cases c15 : a0 = (-4)
              · rw [if_pos c15] at H
                have c15b0 : (a0 == (-4)) = true := beq_iff_eq.mpr c15
                have c15b1 : (a0 != (-4)) = false := bne_eq_false_iff_eq.mpr c15
                clear c15
                have H' := Aside0.mk H
                clear H
                go_wp2
                repeat (go_quiet (fail); try go_wp2)
                go_meet
                case rel => exact ⟨_, (4), (by first | rfl | (simp; done) | (simp [*]; done)), H', ⟨by have := HJ1.out; first | omega | exact Nat.le_refl _⟩, ⟨by (with_reducible repeat (first | apply Kd.R_alloc | apply Kd.R_drewN | apply Kd.R_drew)); exact HO157.out⟩, ⟨by repeat (first | (with_reducible first | exact HB.out | apply below_alloc | apply pw_below_drewN | apply below_drew1) | exact HB.out)⟩⟩
              · rw [if_neg c15] at H
                have c15b0 : (a0 == (-4)) = false := beq_eq_false_iff_ne.mpr c15
                have c15b1 : (a0 != (-4)) = true := bne_iff_ne.mpr c15
                have H' := Aside0.mk H
                clear H
                go_wp2
                repeat (go_quiet (fail); try go_wp2)
                go_meet
                case rel => exact ⟨_, (2), (by first | rfl | (simp; done) | (simp [*]; done)), H', ⟨by have := HJ1.out; first | omega | exact Nat.le_refl _⟩, ⟨by (with_reducible repeat (first | apply Kd.R_alloc | apply Kd.R_drewN | apply Kd.R_drew)); exact HO157.out⟩, ⟨by repeat (first | (with_reducible first | exact HB.out | apply below_alloc | apply pw_below_drewN | apply below_drew1) | exact HB.out)⟩⟩
          case rest =>
            clear HC12
            try clear c1
            try clear p2
            try clear c3
            try clear c3b0
            try clear c4
            try clear c4b0
            try clear c7
            try clear c11
            try clear c11b0
            try clear c11b1
            try clear c14
            try clear c14b0
            try clear c14b1
            try clear c15
            try clear c15b0
            try clear c15b1
            try clear p2
            obtain ⟨kq, x5_11, rfl, HA, HJ11, HO_3, HB⟩ := hcut
            cases kq with
            | zero => exact absurd HA.out (by simp [galoistop_TopClassNumbers.j1])
            | succ kj11 =>
              have H := HA.out
              clear HA
              simp only [galoistop_TopClassNumbers.j1] at H
              have H' := Aside0.mk H
              clear H
              go_wp2
              repeat (go_quiet (fail); try go_wp2)
              go_loopg [6, 7] kj11 (fun kq v6 v7 w' => ∃ (x6_3 : Int) (x7_3 : Int), v6 = .int .i64 x6_3 ∧ v7 = .int .i64 x7_3 ∧ Aside0 (galoistop_TopClassNumbers.l0 kq a0 t154 x5_11 x6_3 x7_3 = some r) ∧ Aside0 (kq ≤ kj11) ∧ Aside0 (Kd.R k31 31 w' w.heap.size (fun _ => True) v156 t154) ∧ Aside0 (Below w.heap.size w w'))
              case atStart => exact ⟨(0), (1), (by first | rfl | (simp; done) | (simp [*]; done)), (by first | rfl | (simp; done) | (simp [*]; done)), H', ⟨Nat.le_refl _⟩, ⟨by (with_reducible repeat (first | apply Kd.R_alloc | apply Kd.R_drewN | apply Kd.R_drew)); exact HO_3.out⟩, ⟨by repeat (first | (with_reducible first | exact HB.out | apply below_alloc | apply pw_below_drewN | apply below_drew1) | exact HB.out)⟩⟩
              case round =>
                clear H'
                try clear c1
                try clear p2
                try clear c3
                try clear c3b0
                try clear c4
                try clear c4b0
                try clear c7
                try clear c11
                try clear c11b0
                try clear c11b1
                try clear c14
                try clear c14b0
                try clear c14b1
                try clear c15
                try clear c15b0
                try clear c15b1
                try clear p2
                obtain ⟨x6_3, x7_3, rfl, rfl, HA, HK3, HO_3, HB⟩ := hrel
                cases gk with
                | zero => exact absurd HA.out (by simp [galoistop_TopClassNumbers.l0])
                | succ k3 =>
                  have H := HA.out
                  clear HA
                  simp only [galoistop_TopClassNumbers.l0] at H
                  by_cases c16 : x7_3 ≤ (wrap64 (-a0))
                  · rw [if_pos c16] at H
                    have c16b0 : decide (x7_3 ≤ (wrap64 (-a0))) = true := decide_eq_true c16
                    clear c16
                    replace H := Option.bind_eq_some_iff.mp H
                    obtain ⟨⟨t158, t159⟩, A170, H⟩ := H
                    replace H : (if t159 = 0 then (galoistop_TopClassNumbers.l0 k3 a0 t154 x5_11 (wrap64 (x6_3 - (wrap64 ((wrap64 (x7_3 * x5_11)) * t158)))) (wrap64 (x7_3 + 1))) else (some false)) = some r := H
                    have A17 := Aside0.mk A170
                    clear A170
                    by_cases c18 : t159 = 0
                    · rw [if_pos c18] at H
                      have c18b0 : (t159 == 0) = true := beq_iff_eq.mpr c18
                      have c18b1 : (t159 != 0) = false := bne_eq_false_iff_eq.mpr c18
                      clear c18
                      have H' := Aside0.mk H
                      clear H
                      go_wp2_with (first | (go_at_call 8; (with_reducible refine (quadratic_Kronecker.calls k3 a0 x7_3 t158 t159 _ A17.out).mono ?_); rintro e w19 ⟨rfl, hb⟩; have n0_ := Aside0.mk (Kd.R_below (by (with_reducible repeat (first | apply Kd.R_alloc | apply Kd.R_drewN | apply Kd.R_drew)); exact HO_3.out) hb); have n1_ := Aside0.mk (below_step (by repeat (first | (with_reducible first | exact HB.out | apply below_alloc | apply pw_below_drewN | apply below_drew1) | exact HB.out)) hb); clear HO_3; clear HB; have HO_3 := n0_; have HB := n1_; clear n0_ n1_; (try clear hb); (try clear hb2); (try clear hk); (try clear hi)))
                      repeat (go_quiet (first | (go_at_call 8; (with_reducible refine (quadratic_Kronecker.calls k3 a0 x7_3 t158 t159 _ A17.out).mono ?_); rintro e w19 ⟨rfl, hb⟩; have n0_ := Aside0.mk (Kd.R_below (by (with_reducible repeat (first | apply Kd.R_alloc | apply Kd.R_drewN | apply Kd.R_drew)); exact HO_3.out) hb); have n1_ := Aside0.mk (below_step (by repeat (first | (with_reducible first | exact HB.out | apply below_alloc | apply pw_below_drewN | apply below_drew1) | exact HB.out)) hb); clear HO_3; clear HB; have HO_3 := n0_; have HB := n1_; clear n0_ n1_; (try clear hb); (try clear hb2); (try clear hk); (try clear hi))); try go_wp2_with (first | (go_at_call 8; (with_reducible refine (quadratic_Kronecker.calls k3 a0 x7_3 t158 t159 _ A17.out).mono ?_); rintro e w19 ⟨rfl, hb⟩; have n0_ := Aside0.mk (Kd.R_below (by (with_reducible repeat (first | apply Kd.R_alloc | apply Kd.R_drewN | apply Kd.R_drew)); exact HO_3.out) hb); have n1_ := Aside0.mk (below_step (by repeat (first | (with_reducible first | exact HB.out | apply below_alloc | apply pw_below_drewN | apply below_drew1) | exact HB.out)) hb); clear HO_3; clear HB; have HO_3 := n0_; have HB := n1_; clear n0_ n1_; (try clear hb); (try clear hb2); (try clear hk); (try clear hi))))
                      go_roundg k3
                      case measure => have := HJ1.out; have := HJ11.out; have := HK3.out; omega
                      case rel => exact ⟨(wrap64 (x6_3 - (wrap64 ((wrap64 (x7_3 * x5_11)) * t158)))), (wrap64 (x7_3 + 1)), (by first | rfl | (simp; done) | (simp [*]; done)), (by first | rfl | (simp; done) | (simp [*]; done)), H', ⟨by have := HJ1.out; have := HJ11.out; have := HK3.out; omega⟩, ⟨by (with_reducible repeat (first | apply Kd.R_alloc | apply Kd.R_drewN | apply Kd.R_drew)); exact HO_3.out⟩, ⟨by repeat (first | (with_reducible first | exact HB.out | apply below_alloc | apply pw_below_drewN | apply below_drew1) | exact HB.out)⟩⟩
                    · rw [if_neg c18] at H
                      have c18b0 : (t159 == 0) = false := beq_eq_false_iff_ne.mpr c18
                      have c18b1 : (t159 != 0) = true := bne_iff_ne.mpr c18
                      obtain rfl := Option.some.inj H
                      go_wp2_with (first | (go_at_call 8; (with_reducible refine (quadratic_Kronecker.calls k3 a0 x7_3 t158 t159 _ A17.out).mono ?_); rintro e w20 ⟨rfl, hb⟩; have n0_ := Aside0.mk (Kd.R_below (by (with_reducible repeat (first | apply Kd.R_alloc | apply Kd.R_drewN | apply Kd.R_drew)); exact HO_3.out) hb); have n1_ := Aside0.mk (below_step (by repeat (first | (with_reducible first | exact HB.out | apply below_alloc | apply pw_below_drewN | apply below_drew1) | exact HB.out)) hb); clear HO_3; clear HB; have HO_3 := n0_; have HB := n1_; clear n0_ n1_; (try clear hb); (try clear hb2); (try clear hk); (try clear hi)))
                      repeat (go_quiet (first | (go_at_call 8; (with_reducible refine (quadratic_Kronecker.calls k3 a0 x7_3 t158 t159 _ A17.out).mono ?_); rintro e w20 ⟨rfl, hb⟩; have n0_ := Aside0.mk (Kd.R_below (by (with_reducible repeat (first | apply Kd.R_alloc | apply Kd.R_drewN | apply Kd.R_drew)); exact HO_3.out) hb); have n1_ := Aside0.mk (below_step (by repeat (first | (with_reducible first | exact HB.out | apply below_alloc | apply pw_below_drewN | apply below_drew1) | exact HB.out)) hb); clear HO_3; clear HB; have HO_3 := n0_; have HB := n1_; clear n0_ n1_; (try clear hb); (try clear hb2); (try clear hk); (try clear hi))); try go_wp2_with (first | (go_at_call 8; (with_reducible refine (quadratic_Kronecker.calls k3 a0 x7_3 t158 t159 _ A17.out).mono ?_); rintro e w20 ⟨rfl, hb⟩; have n0_ := Aside0.mk (Kd.R_below (by (with_reducible repeat (first | apply Kd.R_alloc | apply Kd.R_drewN | apply Kd.R_drew)); exact HO_3.out) hb); have n1_ := Aside0.mk (below_step (by repeat (first | (with_reducible first | exact HB.out | apply below_alloc | apply pw_below_drewN | apply below_drew1) | exact HB.out)) hb); clear HO_3; clear HB; have HO_3 := n0_; have HB := n1_; clear n0_ n1_; (try clear hb); (try clear hb2); (try clear hk); (try clear hi))))
                      go_ret
                      exact ⟨by first | rfl | (simp [errW_none, errW_some] <;> rfl) | (simp [*, errW_none, errW_some] <;> rfl), by repeat (first | (with_reducible first | exact HB.out | apply below_alloc | apply pw_below_drewN | apply below_drew1) | exact HB.out)⟩
                  · rw [if_neg c16] at H
                    have c16b0 : decide (x7_3 ≤ (wrap64 (-a0))) = false := decide_eq_false c16
                    clear c16
                    have H' := Aside0.mk H
                    clear H
                    go_wp2
                    repeat (go_quiet (fail); try go_wp2)
                    go_loopg [10, 12] k3 (fun kq v10 v12 w' => ∃ (x10_4 : Int) (x12_4 : Int), v10 = .int .i64 x10_4 ∧ v12 = .int .i64 x12_4 ∧ Aside0 (galoistop_TopClassNumbers.l1 kq a0 t154 x6_3 x10_4 1 x12_4 = some r) ∧ Aside0 (kq ≤ k3) ∧ Aside0 (Kd.R k31 31 w' w.heap.size (fun _ => True) v156 t154) ∧ Aside0 (Below w.heap.size w w'))
                    case atStart => exact ⟨(0), (0), (by first | rfl | (simp; done) | (simp [*]; done)), (by first | rfl | (simp; done) | (simp [*]; done)), H', ⟨Nat.le_refl _⟩, ⟨by (with_reducible repeat (first | apply Kd.R_alloc | apply Kd.R_drewN | apply Kd.R_drew)); exact HO_3.out⟩, ⟨by repeat (first | (with_reducible first | exact HB.out | apply below_alloc | apply pw_below_drewN | apply below_drew1) | exact HB.out)⟩⟩
                    case round =>
                      clear H'
                      try clear c1
                      try clear p2
                      try clear c3
                      try clear c3b0
                      try clear c4
                      try clear c4b0
                      try clear p6
                      try clear c7
                      try clear c11
                      try clear c11b0
                      try clear c11b1
                      try clear c14
                      try clear c14b0
                      try clear c14b1
                      try clear c15
                      try clear c15b0
                      try clear c15b1
                      try clear c16
                      try clear c16b0
                      try clear c18
                      try clear c18b0
                      try clear c18b1
                      try clear p2
                      obtain ⟨x10_4, x12_4, rfl, rfl, HA, HK4, HO_3, HB⟩ := hrel
                      cases gk with
                      | zero => exact absurd HA.out (by simp [galoistop_TopClassNumbers.l1])
                      | succ k4 =>
                        have H := HA.out
                        clear HA
                        simp only [galoistop_TopClassNumbers.l1] at H
                        by_cases c21 : x12_4 < (t154.length : Int)
                        · rw [if_pos c21] at H
                          have c21b0 : decide (x12_4 < (t154.length : Int)) = true := decide_eq_true c21
                          clear c21
                          by_cases c22 : 0 ≤ x12_4
                          · rw [if_pos c22] at H
                            have c22b0 : decide (0 ≤ x12_4) = true := decide_eq_true c22
                            clear c22
                            by_cases c23 : ((rd_T31 t154 x12_4).f1) = 0
                            · rw [if_pos c23] at H
                              have c23b0 : (((rd_T31 t154 x12_4).f1) == 0) = true := beq_iff_eq.mpr c23
                              have c23b1 : (((rd_T31 t154 x12_4).f1) != 0) = false := bne_eq_false_iff_eq.mpr c23
                              clear c23
                              have H' := Aside0.mk H
                              clear H
                              obtain ⟨Ao24, co24, eo24⟩ := Kd.R_slice HO_3.out
                              subst eo24
                              have p160 : 0 ≤ (x12_4 : Int) := of_decide_eq_true (by first | (with_reducible assumption) | assumption)
                              have q160 : x12_4 < (t154.length : Int) := of_decide_eq_true (by first | (with_reducible assumption) | assumption)
                              obtain ⟨ad160, e160, hx160_0, hx160_1, hx160_2⟩ := at_T31 (Kd.R_reads' HO_3.out).2.2 x12_4 p160 q160
                              cases e160
                              replace p160 := eq_true p160
                              replace q160 := eq_true q160
                              go_wp2
                              repeat (go_quiet (fail); try go_wp2)
                              go_roundg k4
                              case measure => have := HJ1.out; have := HJ11.out; have := HK3.out; have := HK4.out; omega
                              case rel => exact ⟨(wrap64 (x10_4 + 2)), (wrap64 (x12_4 + 1)), (by first | rfl | (simp; done) | (simp [*]; done)), (by first | rfl | (simp; done) | (simp [*]; done)), H', ⟨by have := HJ1.out; have := HJ11.out; have := HK3.out; have := HK4.out; omega⟩, ⟨by (with_reducible repeat (first | apply Kd.R_alloc | apply Kd.R_drewN | apply Kd.R_drew)); exact HO_3.out⟩, ⟨by repeat (first | (with_reducible first | exact HB.out | apply below_alloc | apply pw_below_drewN | apply below_drew1) | exact HB.out)⟩⟩
                            · rw [if_neg c23] at H
                              have c23b0 : (((rd_T31 t154 x12_4).f1) == 0) = false := beq_eq_false_iff_ne.mpr c23
                              have c23b1 : (((rd_T31 t154 x12_4).f1) != 0) = true := bne_iff_ne.mpr c23
                              by_cases c25 : ((rd_T31 t154 x12_4).f1) = ((rd_T31 t154 x12_4).f0)
                              · rw [if_pos c25] at H
                                have c25b0 : (((rd_T31 t154 x12_4).f1) == ((rd_T31 t154 x12_4).f0)) = true := beq_iff_eq.mpr c25
                                have c25b1 : (((rd_T31 t154 x12_4).f1) != ((rd_T31 t154 x12_4).f0)) = false := bne_eq_false_iff_eq.mpr c25
                                clear c25
                                have H' := Aside0.mk H
                                clear H
                                obtain ⟨Ao26, co26, eo26⟩ := Kd.R_slice HO_3.out
                                subst eo26
                                have p160 : 0 ≤ (x12_4 : Int) := of_decide_eq_true (by first | (with_reducible assumption) | assumption)
                                have q160 : x12_4 < (t154.length : Int) := of_decide_eq_true (by first | (with_reducible assumption) | assumption)
                                obtain ⟨ad160, e160, hx160_0, hx160_1, hx160_2⟩ := at_T31 (Kd.R_reads' HO_3.out).2.2 x12_4 p160 q160
                                cases e160
                                replace p160 := eq_true p160
                                replace q160 := eq_true q160
                                have p161 : 0 ≤ (x12_4 : Int) := of_decide_eq_true (by first | (with_reducible assumption) | assumption)
                                have q161 : x12_4 < (t154.length : Int) := of_decide_eq_true (by first | (with_reducible assumption) | assumption)
                                obtain ⟨ad161, e161, hx161_0, hx161_1, hx161_2⟩ := at_T31 (Kd.R_reads' HO_3.out).2.2 x12_4 p161 q161
                                obtain rfl : ad160 = ad161 := (by injection e161)
                                replace p161 := eq_true p161
                                replace q161 := eq_true q161
                                have p162 : 0 ≤ (x12_4 : Int) := of_decide_eq_true (by first | (with_reducible assumption) | assumption)
                                have q162 : x12_4 < (t154.length : Int) := of_decide_eq_true (by first | (with_reducible assumption) | assumption)
                                obtain ⟨ad162, e162, hx162_0, hx162_1, hx162_2⟩ := at_T31 (Kd.R_reads' HO_3.out).2.2 x12_4 p162 q162
                                obtain rfl : ad160 = ad162 := (by injection e162)
                                replace p162 := eq_true p162
                                replace q162 := eq_true q162
                                go_wp2
                                repeat (go_quiet (fail); try go_wp2)
                                go_roundg k4
                                case measure => have := HJ1.out; have := HJ11.out; have := HK3.out; have := HK4.out; omega
                                case rel => exact ⟨(wrap64 (x10_4 + 2)), (wrap64 (x12_4 + 1)), (by first | rfl | (simp; done) | (simp [*]; done)), (by first | rfl | (simp; done) | (simp [*]; done)), H', ⟨by have := HJ1.out; have := HJ11.out; have := HK3.out; have := HK4.out; omega⟩, ⟨by (with_reducible repeat (first | apply Kd.R_alloc | apply Kd.R_drewN | apply Kd.R_drew)); exact HO_3.out⟩, ⟨by repeat (first | (with_reducible first | exact HB.out | apply below_alloc | apply pw_below_drewN | apply below_drew1) | exact HB.out)⟩⟩
                              · rw [if_neg c25] at H
                                have c25b0 : (((rd_T31 t154 x12_4).f1) == ((rd_T31 t154 x12_4).f0)) = false := beq_eq_false_iff_ne.mpr c25
                                have c25b1 : (((rd_T31 t154 x12_4).f1) != ((rd_T31 t154 x12_4).f0)) = true := bne_iff_ne.mpr c25
                                by_cases c27 : ((rd_T31 t154 x12_4).f0) = ((rd_T31 t154 x12_4).f2)
                                · rw [if_pos c27] at H
                                  have c27b0 : (((rd_T31 t154 x12_4).f0) == ((rd_T31 t154 x12_4).f2)) = true := beq_iff_eq.mpr c27
                                  have c27b1 : (((rd_T31 t154 x12_4).f0) != ((rd_T31 t154 x12_4).f2)) = false := bne_eq_false_iff_eq.mpr c27
                                  clear c27
                                  have H' := Aside0.mk H
                                  clear H
                                  obtain ⟨Ao28, co28, eo28⟩ := Kd.R_slice HO_3.out
                                  subst eo28
                                  have p160 : 0 ≤ (x12_4 : Int) := of_decide_eq_true (by first | (with_reducible assumption) | assumption)
                                  have q160 : x12_4 < (t154.length : Int) := of_decide_eq_true (by first | (with_reducible assumption) | assumption)
                                  obtain ⟨ad160, e160, hx160_0, hx160_1, hx160_2⟩ := at_T31 (Kd.R_reads' HO_3.out).2.2 x12_4 p160 q160
                                  cases e160
                                  replace p160 := eq_true p160
                                  replace q160 := eq_true q160
                                  have p161 : 0 ≤ (x12_4 : Int) := of_decide_eq_true (by first | (with_reducible assumption) | assumption)
                                  have q161 : x12_4 < (t154.length : Int) := of_decide_eq_true (by first | (with_reducible assumption) | assumption)
                                  obtain ⟨ad161, e161, hx161_0, hx161_1, hx161_2⟩ := at_T31 (Kd.R_reads' HO_3.out).2.2 x12_4 p161 q161
                                  obtain rfl : ad160 = ad161 := (by injection e161)
                                  replace p161 := eq_true p161
                                  replace q161 := eq_true q161
                                  have p162 : 0 ≤ (x12_4 : Int) := of_decide_eq_true (by first | (with_reducible assumption) | assumption)
                                  have q162 : x12_4 < (t154.length : Int) := of_decide_eq_true (by first | (with_reducible assumption) | assumption)
                                  obtain ⟨ad162, e162, hx162_0, hx162_1, hx162_2⟩ := at_T31 (Kd.R_reads' HO_3.out).2.2 x12_4 p162 q162
                                  obtain rfl : ad160 = ad162 := (by injection e162)
                                  replace p162 := eq_true p162
                                  replace q162 := eq_true q162
                                  have p163 : 0 ≤ (x12_4 : Int) := of_decide_eq_true (by first | (with_reducible assumption) | assumption)
                                  have q163 : x12_4 < (t154.length : Int) := of_decide_eq_true (by first | (with_reducible assumption) | assumption)
                                  obtain ⟨ad163, e163, hx163_0, hx163_1, hx163_2⟩ := at_T31 (Kd.R_reads' HO_3.out).2.2 x12_4 p163 q163
                                  obtain rfl : ad160 = ad163 := (by injection e163)
                                  replace p163 := eq_true p163
                                  replace q163 := eq_true q163
                                  have p164 : 0 ≤ (x12_4 : Int) := of_decide_eq_true (by first | (with_reducible assumption) | assumption)
                                  have q164 : x12_4 < (t154.length : Int) := of_decide_eq_true (by first | (with_reducible assumption) | assumption)
                                  obtain ⟨ad164, e164, hx164_0, hx164_1, hx164_2⟩ := at_T31 (Kd.R_reads' HO_3.out).2.2 x12_4 p164 q164
                                  obtain rfl : ad160 = ad164 := (by injection e164)
                                  replace p164 := eq_true p164
                                  replace q164 := eq_true q164
                                  go_wp2
                                  repeat (go_quiet (fail); try go_wp2)
                                  go_roundg k4
                                  case measure => have := HJ1.out; have := HJ11.out; have := HK3.out; have := HK4.out; omega
                                  case rel => exact ⟨(wrap64 (x10_4 + 2)), (wrap64 (x12_4 + 1)), (by first | rfl | (simp; done) | (simp [*]; done)), (by first | rfl | (simp; done) | (simp [*]; done)), H', ⟨by have := HJ1.out; have := HJ11.out; have := HK3.out; have := HK4.out; omega⟩, ⟨by (with_reducible repeat (first | apply Kd.R_alloc | apply Kd.R_drewN | apply Kd.R_drew)); exact HO_3.out⟩, ⟨by repeat (first | (with_reducible first | exact HB.out | apply below_alloc | apply pw_below_drewN | apply below_drew1) | exact HB.out)⟩⟩
                                · rw [if_neg c27] at H
                                  have c27b0 : (((rd_T31 t154 x12_4).f0) == ((rd_T31 t154 x12_4).f2)) = false := beq_eq_false_iff_ne.mpr c27
                                  have c27b1 : (((rd_T31 t154 x12_4).f0) != ((rd_T31 t154 x12_4).f2)) = true := bne_iff_ne.mpr c27
                                  have H' := Aside0.mk H
                                  clear H
                                  obtain ⟨Ao29, co29, eo29⟩ := Kd.R_slice HO_3.out
                                  subst eo29
                                  have p160 : 0 ≤ (x12_4 : Int) := of_decide_eq_true (by first | (with_reducible assumption) | assumption)
                                  have q160 : x12_4 < (t154.length : Int) := of_decide_eq_true (by first | (with_reducible assumption) | assumption)
                                  obtain ⟨ad160, e160, hx160_0, hx160_1, hx160_2⟩ := at_T31 (Kd.R_reads' HO_3.out).2.2 x12_4 p160 q160
                                  cases e160
                                  replace p160 := eq_true p160
                                  replace q160 := eq_true q160
                                  have p161 : 0 ≤ (x12_4 : Int) := of_decide_eq_true (by first | (with_reducible assumption) | assumption)
                                  have q161 : x12_4 < (t154.length : Int) := of_decide_eq_true (by first | (with_reducible assumption) | assumption)
                                  obtain ⟨ad161, e161, hx161_0, hx161_1, hx161_2⟩ := at_T31 (Kd.R_reads' HO_3.out).2.2 x12_4 p161 q161
                                  obtain rfl : ad160 = ad161 := (by injection e161)
                                  replace p161 := eq_true p161
                                  replace q161 := eq_true q161
                                  have p162 : 0 ≤ (x12_4 : Int) := of_decide_eq_true (by first | (with_reducible assumption) | assumption)
                                  have q162 : x12_4 < (t154.length : Int) := of_decide_eq_true (by first | (with_reducible assumption) | assumption)
                                  obtain ⟨ad162, e162, hx162_0, hx162_1, hx162_2⟩ := at_T31 (Kd.R_reads' HO_3.out).2.2 x12_4 p162 q162
                                  obtain rfl : ad160 = ad162 := (by injection e162)
                                  replace p162 := eq_true p162
                                  replace q162 := eq_true q162
                                  have p163 : 0 ≤ (x12_4 : Int) := of_decide_eq_true (by first | (with_reducible assumption) | assumption)
                                  have q163 : x12_4 < (t154.length : Int) := of_decide_eq_true (by first | (with_reducible assumption) | assumption)
                                  obtain ⟨ad163, e163, hx163_0, hx163_1, hx163_2⟩ := at_T31 (Kd.R_reads' HO_3.out).2.2 x12_4 p163 q163
                                  obtain rfl : ad160 = ad163 := (by injection e163)
                                  replace p163 := eq_true p163
                                  replace q163 := eq_true q163
                                  have p164 : 0 ≤ (x12_4 : Int) := of_decide_eq_true (by first | (with_reducible assumption) | assumption)
                                  have q164 : x12_4 < (t154.length : Int) := of_decide_eq_true (by first | (with_reducible assumption) | assumption)
                                  obtain ⟨ad164, e164, hx164_0, hx164_1, hx164_2⟩ := at_T31 (Kd.R_reads' HO_3.out).2.2 x12_4 p164 q164
                                  obtain rfl : ad160 = ad164 := (by injection e164)
                                  replace p164 := eq_true p164
                                  replace q164 := eq_true q164
                                  go_wp2
                                  repeat (go_quiet (fail); try go_wp2)
                                  go_roundg k4
                                  case measure => have := HJ1.out; have := HJ11.out; have := HK3.out; have := HK4.out; omega
                                  case rel => exact ⟨(x10_4), (wrap64 (x12_4 + 1)), (by first | rfl | (simp; done) | (simp [*]; done)), (by first | rfl | (simp; done) | (simp [*]; done)), H', ⟨by have := HJ1.out; have := HJ11.out; have := HK3.out; have := HK4.out; omega⟩, ⟨by (with_reducible repeat (first | apply Kd.R_alloc | apply Kd.R_drewN | apply Kd.R_drew)); exact HO_3.out⟩, ⟨by repeat (first | (with_reducible first | exact HB.out | apply below_alloc | apply pw_below_drewN | apply below_drew1) | exact HB.out)⟩⟩
                          · rw [if_neg c22] at H
                            exact absurd H (by simp)
                        · rw [if_neg c21] at H
                          have c21b0 : decide (x12_4 < (t154.length : Int)) = false := decide_eq_false c21
                          clear c21
                          have H' := Aside0.mk H
                          clear H
                          obtain ⟨Ao30, co30, eo30⟩ := Kd.R_slice HO_3.out
                          subst eo30
                          go_wp2
                          repeat (go_quiet (fail); try go_wp2)
                          go_loopg [11, 13] k4 (fun kq v11 v13 w' => ∃ (x11_5 : Int) (x13_5 : Int), v11 = .int .i64 x11_5 ∧ v13 = .int .i64 x13_5 ∧ Aside0 (galoistop_TopClassNumbers.l2 kq a0 t154 x6_3 x10_4 x11_5 x13_5 = some r) ∧ Aside0 (kq ≤ k4) ∧ Aside0 (Kd.R k31 31 w' w.heap.size (fun _ => True) (.slice Ao30 t154.length co30) t154) ∧ Aside0 (Below w.heap.size w w'))
                          case atStart => exact ⟨(1), (2), (by first | rfl | (simp; done) | (simp [*]; done)), (by first | rfl | (simp; done) | (simp [*]; done)), H', ⟨Nat.le_refl _⟩, ⟨by (with_reducible repeat (first | apply Kd.R_alloc | apply Kd.R_drewN | apply Kd.R_drew)); exact HO_3.out⟩, ⟨by repeat (first | (with_reducible first | exact HB.out | apply below_alloc | apply pw_below_drewN | apply below_drew1) | exact HB.out)⟩⟩
                          case round =>
                            clear H'
                            try clear c1
                            try clear p1
                            try clear q1
                            try clear hx1
                            try clear c2
                            try clear p2
                            try clear c3
                            try clear c3b0
                            try clear c4
                            try clear c4b0
                            try clear p6
                            try clear c7
                            try clear c11
                            try clear c11b0
                            try clear c11b1
                            try clear c14
                            try clear c14b0
                            try clear c14b1
                            try clear c15
                            try clear c15b0
                            try clear c15b1
                            try clear c16
                            try clear c16b0
                            try clear p16
                            try clear q16
                            try clear hx16
                            try clear c18
                            try clear c18b0
                            try clear c18b1
                            try clear c21
                            try clear c21b0
                            try clear c22
                            try clear c22b0
                            try clear c23
                            try clear c23b0
                            try clear c23b1
                            try clear c25
                            try clear c25b0
                            try clear c25b1
                            try clear c27
                            try clear c27b0
                            try clear c27b1
                            try clear hx160_0
                            try clear hx160_1
                            try clear hx160_2
                            try clear hx161_0
                            try clear hx161_1
                            try clear hx161_2
                            try clear hx162_0
                            try clear hx162_1
                            try clear hx162_2
                            try clear hx163_0
                            try clear hx163_1
                            try clear hx163_2
                            try clear hx164_0
                            try clear hx164_1
                            try clear hx164_2
                            try clear p160
                            try clear p161
                            try clear p162
                            try clear p163
                            try clear p164
                            try clear p2
                            try clear p6
                            try clear q160
                            try clear q161
                            try clear q162
                            try clear q163
                            try clear q164
                            obtain ⟨x11_5, x13_5, rfl, rfl, HA, HK5, HO_3, HB⟩ := hrel
                            cases gk with
                            | zero => exact absurd HA.out (by simp [galoistop_TopClassNumbers.l2])
                            | succ k5 =>
                              have H := HA.out
                              clear HA
                              simp only [galoistop_TopClassNumbers.l2] at H
                              by_cases c31 : x13_5 ≤ (wrap64 (-a0))
                              · rw [if_pos c31] at H
                                have c31b0 : decide (x13_5 ≤ (wrap64 (-a0))) = true := decide_eq_true c31
                                clear c31
                                by_cases c32 : x13_5 = 0
                                · rw [if_pos c32] at H
                                  exact absurd H (by simp)
                                · rw [if_neg c32] at H
                                  have c32b0 : (x13_5 == 0) = false := beq_eq_false_iff_ne.mpr c32
                                  have c32b1 : (x13_5 != 0) = true := bne_iff_ne.mpr c32
                                  by_cases c33 : (Int.tmod a0 x13_5) = 0
                                  · rw [if_pos c33] at H
                                    have c33b0 : ((Int.tmod a0 x13_5) == 0) = true := beq_iff_eq.mpr c33
                                    have c33b1 : ((Int.tmod a0 x13_5) != 0) = false := bne_eq_false_iff_eq.mpr c33
                                    clear c33
                                    replace H := Option.bind_eq_some_iff.mp H
                                    obtain ⟨t165, A340, H⟩ := H
                                    replace H : (if t165 = true then (galoistop_TopClassNumbers.l2 k5 a0 t154 x6_3 x10_4 (wrap64 (x11_5 * 2)) (wrap64 (x13_5 + 1))) else (galoistop_TopClassNumbers.l2 k5 a0 t154 x6_3 x10_4 x11_5 (wrap64 (x13_5 + 1)))) = some r := H
                                    have A34 := Aside0.mk A340
                                    clear A340
                                    by_cases c35 : t165 = true
                                    · subst c35
                                      have H1 : (galoistop_TopClassNumbers.l2 k5 a0 t154 x6_3 x10_4 (wrap64 (x11_5 * 2)) (wrap64 (x13_5 + 1))) = some r := by rw [if_pos rfl] at H; exact H
                                      clear H
                                      have H := H1
                                      clear H1
                                      have H' := Aside0.mk H
                                      clear H
                                      go_wp2_with (first | (go_at_call 9; (with_reducible refine (galoisref04_IsPrime.calls k5 x13_5 true _ A34.out).mono ?_); rintro e w' ⟨rfl, ⟨nd, rfl⟩⟩; (try first | exact ⟨rfl, _, World.drewN_drewN _ _ _⟩ | exact ⟨rfl, _, Eq.trans (World.drewN_drewN _ _ _) (congrArg (World.drewN _) (Nat.add_assoc _ _ _))⟩)))
                                      repeat (go_quiet (first | (go_at_call 9; (with_reducible refine (galoisref04_IsPrime.calls k5 x13_5 true _ A34.out).mono ?_); rintro e w' ⟨rfl, ⟨nd, rfl⟩⟩; (try first | exact ⟨rfl, _, World.drewN_drewN _ _ _⟩ | exact ⟨rfl, _, Eq.trans (World.drewN_drewN _ _ _) (congrArg (World.drewN _) (Nat.add_assoc _ _ _))⟩))); try go_wp2_with (first | (go_at_call 9; (with_reducible refine (galoisref04_IsPrime.calls k5 x13_5 true _ A34.out).mono ?_); rintro e w' ⟨rfl, ⟨nd, rfl⟩⟩; (try first | exact ⟨rfl, _, World.drewN_drewN _ _ _⟩ | exact ⟨rfl, _, Eq.trans (World.drewN_drewN _ _ _) (congrArg (World.drewN _) (Nat.add_assoc _ _ _))⟩))))
                                      go_roundg k5
                                      case measure => have := HJ1.out; have := HJ11.out; have := HK3.out; have := HK4.out; have := HK5.out; omega
                                      case rel => exact ⟨(wrap64 (x11_5 * 2)), (wrap64 (x13_5 + 1)), (by first | rfl | (simp; done) | (simp [*]; done)), (by first | rfl | (simp; done) | (simp [*]; done)), H', ⟨by have := HJ1.out; have := HJ11.out; have := HK3.out; have := HK4.out; have := HK5.out; omega⟩, ⟨by (with_reducible repeat (first | apply Kd.R_alloc | apply Kd.R_drewN | apply Kd.R_drew)); exact HO_3.out⟩, ⟨by repeat (first | (with_reducible first | exact HB.out | apply below_alloc | apply pw_below_drewN | apply below_drew1) | exact HB.out)⟩⟩
                                    · replace c35 := Bool.eq_false_iff.mpr c35
                                      subst c35
                                      have H1 : (galoistop_TopClassNumbers.l2 k5 a0 t154 x6_3 x10_4 x11_5 (wrap64 (x13_5 + 1))) = some r := by rw [if_neg (show ¬ (false = true) by decide)] at H; exact H
                                      clear H
                                      have H := H1
                                      clear H1
                                      have H' := Aside0.mk H
                                      clear H
                                      go_wp2_with (first | (go_at_call 9; (with_reducible refine (galoisref04_IsPrime.calls k5 x13_5 false _ A34.out).mono ?_); rintro e w' ⟨rfl, ⟨nd, rfl⟩⟩; (try first | exact ⟨rfl, _, World.drewN_drewN _ _ _⟩ | exact ⟨rfl, _, Eq.trans (World.drewN_drewN _ _ _) (congrArg (World.drewN _) (Nat.add_assoc _ _ _))⟩)))
                                      repeat (go_quiet (first | (go_at_call 9; (with_reducible refine (galoisref04_IsPrime.calls k5 x13_5 false _ A34.out).mono ?_); rintro e w' ⟨rfl, ⟨nd, rfl⟩⟩; (try first | exact ⟨rfl, _, World.drewN_drewN _ _ _⟩ | exact ⟨rfl, _, Eq.trans (World.drewN_drewN _ _ _) (congrArg (World.drewN _) (Nat.add_assoc _ _ _))⟩))); try go_wp2_with (first | (go_at_call 9; (with_reducible refine (galoisref04_IsPrime.calls k5 x13_5 false _ A34.out).mono ?_); rintro e w' ⟨rfl, ⟨nd, rfl⟩⟩; (try first | exact ⟨rfl, _, World.drewN_drewN _ _ _⟩ | exact ⟨rfl, _, Eq.trans (World.drewN_drewN _ _ _) (congrArg (World.drewN _) (Nat.add_assoc _ _ _))⟩))))
                                      go_roundg k5
                                      case measure => have := HJ1.out; have := HJ11.out; have := HK3.out; have := HK4.out; have := HK5.out; omega
                                      case rel => exact ⟨(x11_5), (wrap64 (x13_5 + 1)), (by first | rfl | (simp; done) | (simp [*]; done)), (by first | rfl | (simp; done) | (simp [*]; done)), H', ⟨by have := HJ1.out; have := HJ11.out; have := HK3.out; have := HK4.out; have := HK5.out; omega⟩, ⟨by (with_reducible repeat (first | apply Kd.R_alloc | apply Kd.R_drewN | apply Kd.R_drew)); exact HO_3.out⟩, ⟨by repeat (first | (with_reducible first | exact HB.out | apply below_alloc | apply pw_below_drewN | apply below_drew1) | exact HB.out)⟩⟩
                                  · rw [if_neg c33] at H
                                    have c33b0 : ((Int.tmod a0 x13_5) == 0) = false := beq_eq_false_iff_ne.mpr c33
                                    have c33b1 : ((Int.tmod a0 x13_5) != 0) = true := bne_iff_ne.mpr c33
                                    have H' := Aside0.mk H
                                    clear H
                                    go_wp2
                                    repeat (go_quiet (fail); try go_wp2)
                                    go_roundg k5
                                    case measure => have := HJ1.out; have := HJ11.out; have := HK3.out; have := HK4.out; have := HK5.out; omega
                                    case rel => exact ⟨(x11_5), (wrap64 (x13_5 + 1)), (by first | rfl | (simp; done) | (simp [*]; done)), (by first | rfl | (simp; done) | (simp [*]; done)), H', ⟨by have := HJ1.out; have := HJ11.out; have := HK3.out; have := HK4.out; have := HK5.out; omega⟩, ⟨by (with_reducible repeat (first | apply Kd.R_alloc | apply Kd.R_drewN | apply Kd.R_drew)); exact HO_3.out⟩, ⟨by repeat (first | (with_reducible first | exact HB.out | apply below_alloc | apply pw_below_drewN | apply below_drew1) | exact HB.out)⟩⟩
                              · rw [if_neg c31] at H
                                have c31b0 : decide (x13_5 ≤ (wrap64 (-a0))) = false := decide_eq_false c31
                                clear c31
                                by_cases c36 : x6_3 = (wrap64 ((wrap64 ((-2) * a0)) * (t154.length : Int)))
                                · rw [if_pos c36] at H
                                  have c36b0 : (x6_3 == (wrap64 ((wrap64 ((-2) * a0)) * (t154.length : Int)))) = true := beq_iff_eq.mpr c36
                                  have c36b1 : (x6_3 != (wrap64 ((wrap64 ((-2) * a0)) * (t154.length : Int)))) = false := bne_eq_false_iff_eq.mpr c36
                                  clear c36
                                  by_cases c37 : x10_4 = x11_5
                                  · rw [if_pos c37] at H
                                    have c37b0 : (x10_4 == x11_5) = true := beq_iff_eq.mpr c37
                                    have c37b1 : (x10_4 != x11_5) = false := bne_eq_false_iff_eq.mpr c37
                                    clear c37
                                    replace H := Option.bind_eq_some_iff.mp H
                                    obtain ⟨t166, A380, H⟩ := H
                                    replace H : (some t166) = some r := H
                                    have A38 := Aside0.mk A380
                                    clear A380
                                    obtain rfl := Option.some.inj H
                                    go_wp2_with (first | (go_at_call 6; (with_reducible refine (galoistop_wideForms.calls k5  t166 _ A38.out).mono ?_); rintro e w39 ⟨rfl, hb⟩; have n0_ := Aside0.mk (Kd.R_below (by (with_reducible repeat (first | apply Kd.R_alloc | apply Kd.R_drewN | apply Kd.R_drew)); exact HO_3.out) hb); have n1_ := Aside0.mk (below_step (by repeat (first | (with_reducible first | exact HB.out | apply below_alloc | apply pw_below_drewN | apply below_drew1) | exact HB.out)) hb); clear HO_3; clear HB; have HO_3 := n0_; have HB := n1_; clear n0_ n1_; (try clear hb); (try clear hb2); (try clear hk); (try clear hi)))
                                    repeat (go_quiet (first | (go_at_call 6; (with_reducible refine (galoistop_wideForms.calls k5  t166 _ A38.out).mono ?_); rintro e w39 ⟨rfl, hb⟩; have n0_ := Aside0.mk (Kd.R_below (by (with_reducible repeat (first | apply Kd.R_alloc | apply Kd.R_drewN | apply Kd.R_drew)); exact HO_3.out) hb); have n1_ := Aside0.mk (below_step (by repeat (first | (with_reducible first | exact HB.out | apply below_alloc | apply pw_below_drewN | apply below_drew1) | exact HB.out)) hb); clear HO_3; clear HB; have HO_3 := n0_; have HB := n1_; clear n0_ n1_; (try clear hb); (try clear hb2); (try clear hk); (try clear hi))); try go_wp2_with (first | (go_at_call 6; (with_reducible refine (galoistop_wideForms.calls k5  t166 _ A38.out).mono ?_); rintro e w39 ⟨rfl, hb⟩; have n0_ := Aside0.mk (Kd.R_below (by (with_reducible repeat (first | apply Kd.R_alloc | apply Kd.R_drewN | apply Kd.R_drew)); exact HO_3.out) hb); have n1_ := Aside0.mk (below_step (by repeat (first | (with_reducible first | exact HB.out | apply below_alloc | apply pw_below_drewN | apply below_drew1) | exact HB.out)) hb); clear HO_3; clear HB; have HO_3 := n0_; have HB := n1_; clear n0_ n1_; (try clear hb); (try clear hb2); (try clear hk); (try clear hi))))
                                    go_ret
                                    exact ⟨by first | rfl | (simp [errW_none, errW_some] <;> rfl) | (simp [*, errW_none, errW_some] <;> rfl), by repeat (first | (with_reducible first | exact HB.out | apply below_alloc | apply pw_below_drewN | apply below_drew1) | exact HB.out)⟩
                                  · rw [if_neg c37] at H
                                    have c37b0 : (x10_4 == x11_5) = false := beq_eq_false_iff_ne.mpr c37
                                    have c37b1 : (x10_4 != x11_5) = true := bne_iff_ne.mpr c37
                                    obtain rfl := Option.some.inj H
                                    go_wp2
                                    repeat (go_quiet (fail); try go_wp2)
                                    go_ret
                                    exact ⟨by first | rfl | (simp [errW_none, errW_some] <;> rfl) | (simp [*, errW_none, errW_some] <;> rfl), by repeat (first | (with_reducible first | exact HB.out | apply below_alloc | apply pw_below_drewN | apply below_drew1) | exact HB.out)⟩
                                · rw [if_neg c36] at H
                                  have c36b0 : (x6_3 == (wrap64 ((wrap64 ((-2) * a0)) * (t154.length : Int)))) = false := beq_eq_false_iff_ne.mpr c36
                                  have c36b1 : (x6_3 != (wrap64 ((wrap64 ((-2) * a0)) * (t154.length : Int)))) = true := bne_iff_ne.mpr c36
                                  obtain rfl := Option.some.inj H
                                  go_wp2
                                  repeat (go_quiet (fail); try go_wp2)
                                  go_ret
                                  exact ⟨by first | rfl | (simp [errW_none, errW_some] <;> rfl) | (simp [*, errW_none, errW_some] <;> rfl), by repeat (first | (with_reducible first | exact HB.out | apply below_alloc | apply pw_below_drewN | apply below_drew1) | exact HB.out)⟩
        · rw [if_neg c11] at H
          have c11b0 : (t155 == 0) = false := beq_eq_false_iff_ne.mpr c11
          have c11b1 : (t155 != 0) = true := bne_iff_ne.mpr c11
          obtain rfl := Option.some.inj H
          go_wp2_with (first | (go_at_call 7; (with_reducible refine (quadratic_Forms.calls kj1 a0 t154 t155 _ A10.out).mono ?_); rintro e w40 ⟨v156, rfl, ho0, hb⟩; have n0_ := Aside0.mk (Kd.R_lower ho0 (below_size (by repeat (first | (with_reducible first | exact HB.out | apply below_alloc | apply pw_below_drewN | apply below_drew1) | exact HB.out)))); have n1_ := Aside0.mk (below_step (by repeat (first | (with_reducible first | exact HB.out | apply below_alloc | apply pw_below_drewN | apply below_drew1) | exact HB.out)) hb); clear HB; have HO157 := n0_; have HB := n1_; clear n0_ n1_; (try clear hb); (try clear hb2); (try clear hk); (try clear hi); (try clear ho0)))
          repeat (go_quiet (first | (go_at_call 7; (with_reducible refine (quadratic_Forms.calls kj1 a0 t154 t155 _ A10.out).mono ?_); rintro e w40 ⟨v156, rfl, ho0, hb⟩; have n0_ := Aside0.mk (Kd.R_lower ho0 (below_size (by repeat (first | (with_reducible first | exact HB.out | apply below_alloc | apply pw_below_drewN | apply below_drew1) | exact HB.out)))); have n1_ := Aside0.mk (below_step (by repeat (first | (with_reducible first | exact HB.out | apply below_alloc | apply pw_below_drewN | apply below_drew1) | exact HB.out)) hb); clear HB; have HO157 := n0_; have HB := n1_; clear n0_ n1_; (try clear hb); (try clear hb2); (try clear hk); (try clear hi); (try clear ho0))); try go_wp2_with (first | (go_at_call 7; (with_reducible refine (quadratic_Forms.calls kj1 a0 t154 t155 _ A10.out).mono ?_); rintro e w40 ⟨v156, rfl, ho0, hb⟩; have n0_ := Aside0.mk (Kd.R_lower ho0 (below_size (by repeat (first | (with_reducible first | exact HB.out | apply below_alloc | apply pw_below_drewN | apply below_drew1) | exact HB.out)))); have n1_ := Aside0.mk (below_step (by repeat (first | (with_reducible first | exact HB.out | apply below_alloc | apply pw_below_drewN | apply below_drew1) | exact HB.out)) hb); clear HB; have HO157 := n0_; have HB := n1_; clear n0_ n1_; (try clear hb); (try clear hb2); (try clear hk); (try clear hi); (try clear ho0))))
          go_ret
          exact ⟨by first | rfl | (simp [errW_none, errW_some] <;> rfl) | (simp [*, errW_none, errW_some] <;> rfl), by repeat (first | (with_reducible first | exact HB.out | apply below_alloc | apply pw_below_drewN | apply below_drew1) | exact HB.out)⟩

/-- THE ONE PURE STATEMENT of galoistop_TopClassNumbers: yours. -/
def galoistop_TopClassNumbers.Pure : Prop := ∀ (a0 : Int), (Lit.int .i64 a0).wf = true → ∃ k, galoistop_TopClassNumbers.f k a0 = some true
theorem galoistop_TopClassNumbers.walk (P : galoistop_TopClassNumbers.Pure) (a0 : Int) (w : World) (w0 : (Lit.int .i64 a0).wf = true) :
    Calls Try.prog 3 #[.int .i64 a0] w fun e w' => e = .returned (.bool true) ∧ Below w.heap.size w w' := by
  obtain ⟨k, h⟩ := P a0 w0
  refine (galoistop_TopClassNumbers.calls k a0 true w h).mono ?_
  rintro e w' ⟨rfl, hd⟩
  exact ⟨rfl, hd⟩

end Go.Proofs.Ytppdaagiofcmkaa.Q
