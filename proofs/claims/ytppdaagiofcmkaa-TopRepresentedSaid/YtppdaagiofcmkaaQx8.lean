-- WRITTEN BY print2.py, this session's driver of the kit's printer, with hand-proved contracts among it.
import Derived.Test.YtppdaagiofcmkaaQx0
import Derived.Test.YtppdaagiofcmkaaQx2
import Derived.Test.YtppdaagiofcmkaaQx4
import Derived.Test.YtppdaagiofcmkaaQx5
import Derived.Test.YtppdaagiofcmkaaQx6
namespace Go.Proofs.Ytppdaagiofcmkaa.Q
open Go.RowKit Go.Proofs.YtppdaagiofcmkaaW.PrintWords Go.Proofs.YtppdaagiofcmkaaW.PrintLast Go.Proofs.YtppdaagiofcmkaaW.PrintMore
attribute [local go_sem] max2_int min2_int max_two min_two max_three min_three max_four min_four   -- for this text's walks alone
set_option linter.unusedVariables false
set_option linter.unusedSimpArgs false

/-! ### galoistop_TopRepresented: function 4 -/
mutual
def galoistop_TopRepresented.j0 : Nat → Int → Int → Bool → Option (Bool)
  | 0, _, _, _ => none
  | k + 1, x0, x1, x34 => if x34 = true then ((galoistop_wideForms.f k).bind fun t168 => (some t168)) else ((quadratic_Forms.f k x0).bind fun bt169 => (if bt169.2 = 0 then (galoistop_TopRepresented.l0 k x0 x1 bt169.1 0 0) else (some false)))
def galoistop_TopRepresented.l0 : Nat → Int → Int → List (S31) → Int → Int → Option (Bool)
  | 0, _, _, _, _, _ => none
  | k + 1, x0, x1, x5, x7, x8 => if x8 < (x5.length : Int) then (if 0 ≤ x8 then (galoistop_TopRepresented.l1 k x0 x1 x5 x7 x8 (-24) ((rd_T31 x5 x8).f0) ((rd_T31 x5 x8).f1) ((rd_T31 x5 x8).f2)) else (none)) else (if x0 = (-3) then (galoistop_TopRepresented.j4 k x0 x1 x7 6) else (if x0 = (-4) then (galoistop_TopRepresented.j4 k x0 x1 x7 4) else (galoistop_TopRepresented.j4 k x0 x1 x7 2)))
def galoistop_TopRepresented.l1 : Nat → Int → Int → List (S31) → Int → Int → Int → Int → Int → Int → Option (Bool)
  | 0, _, _, _, _, _, _, _, _, _ => none
  | k + 1, x0, x1, x5, x7, x8, x10, x175000, x175001, x175002 => if x10 ≤ 24 then (galoistop_TopRepresented.l2 k x0 x1 x5 x7 x8 x10 (-24) x175000 x175001 x175002) else (galoistop_TopRepresented.l0 k x0 x1 x5 x7 (wrap64 (x8 + 1)))
def galoistop_TopRepresented.l2 : Nat → Int → Int → List (S31) → Int → Int → Int → Int → Int → Int → Int → Option (Bool)
  | 0, _, _, _, _, _, _, _, _, _, _ => none
  | k + 1, x0, x1, x5, x7, x8, x10, x11, x175000, x175001, x175002 => if x11 ≤ 24 then (if (wrap64 ((wrap64 ((wrap64 ((wrap64 (x175000 * x10)) * x10)) + (wrap64 ((wrap64 (x175001 * x10)) * x11)))) + (wrap64 ((wrap64 (x175002 * x11)) * x11)))) = x1 then (galoistop_TopRepresented.l2 k x0 x1 x5 (wrap64 (x7 + 1)) x8 x10 (wrap64 (x11 + 1)) x175000 x175001 x175002) else (galoistop_TopRepresented.l2 k x0 x1 x5 x7 x8 x10 (wrap64 (x11 + 1)) x175000 x175001 x175002)) else (galoistop_TopRepresented.l1 k x0 x1 x5 x7 x8 (wrap64 (x10 + 1)) x175000 x175001 x175002)
def galoistop_TopRepresented.j4 : Nat → Int → Int → Int → Int → Option (Bool)
  | 0, _, _, _, _ => none
  | k + 1, x0, x1, x7, x12 => galoistop_TopRepresented.l3 k x0 x1 x7 x12 1
def galoistop_TopRepresented.l3 : Nat → Int → Int → Int → Int → Int → Option (Bool)
  | 0, _, _, _, _, _ => none
  | k + 1, x0, x1, x7, x12, x13 => if x13 ≤ x1 then (if x13 = 0 then (none) else (if (Int.tmod x1 x13) = 0 then ((quadratic_Kronecker.f k x0 x13).bind fun bt176 => (if bt176.2 = 0 then (galoistop_TopRepresented.l3 k x0 x1 (wrap64 (x7 - (wrap64 (x12 * bt176.1)))) x12 (wrap64 (x13 + 1))) else (some false))) else (galoistop_TopRepresented.l3 k x0 x1 x7 x12 (wrap64 (x13 + 1))))) else (if x7 = 0 then ((galoistop_wideForms.f k).bind fun t175 => (some t175)) else (some false))
end
def galoistop_TopRepresented.f (k : Nat) (a0 : Int) (a1 : Int) : Option (Bool) := if a0 > (-3) then (galoistop_TopRepresented.j0 k a0 a1 true) else (if a0 < (-2000) then (galoistop_TopRepresented.j0 k a0 a1 true) else (if a1 < 1 then (galoistop_TopRepresented.j0 k a0 a1 true) else (if a1 > 300 then (galoistop_TopRepresented.j0 k a0 a1 true) else ((galoisref50_IsFundamental.f k a0).bind fun t167 => (galoistop_TopRepresented.j0 k a0 a1 (!t167))))))
theorem galoistop_TopRepresented.mono_l : ∀ k, (∀ y0 y1 y2, LeO (galoistop_TopRepresented.j0 k y0 y1 y2) (galoistop_TopRepresented.j0 (k + 1) y0 y1 y2)) ∧ (∀ y0 y1 y2 y3 y4, LeO (galoistop_TopRepresented.l0 k y0 y1 y2 y3 y4) (galoistop_TopRepresented.l0 (k + 1) y0 y1 y2 y3 y4)) ∧ (∀ y0 y1 y2 y3 y4 y5 y6 y7 y8, LeO (galoistop_TopRepresented.l1 k y0 y1 y2 y3 y4 y5 y6 y7 y8) (galoistop_TopRepresented.l1 (k + 1) y0 y1 y2 y3 y4 y5 y6 y7 y8)) ∧ (∀ y0 y1 y2 y3 y4 y5 y6 y7 y8 y9, LeO (galoistop_TopRepresented.l2 k y0 y1 y2 y3 y4 y5 y6 y7 y8 y9) (galoistop_TopRepresented.l2 (k + 1) y0 y1 y2 y3 y4 y5 y6 y7 y8 y9)) ∧ (∀ y0 y1 y2 y3, LeO (galoistop_TopRepresented.j4 k y0 y1 y2 y3) (galoistop_TopRepresented.j4 (k + 1) y0 y1 y2 y3)) ∧ (∀ y0 y1 y2 y3 y4, LeO (galoistop_TopRepresented.l3 k y0 y1 y2 y3 y4) (galoistop_TopRepresented.l3 (k + 1) y0 y1 y2 y3 y4))
  | 0 => ⟨fun _ _ _ r h => by simp [galoistop_TopRepresented.j0] at h, fun _ _ _ _ _ r h => by simp [galoistop_TopRepresented.l0] at h, fun _ _ _ _ _ _ _ _ _ r h => by simp [galoistop_TopRepresented.l1] at h, fun _ _ _ _ _ _ _ _ _ _ r h => by simp [galoistop_TopRepresented.l2] at h, fun _ _ _ _ r h => by simp [galoistop_TopRepresented.j4] at h, fun _ _ _ _ _ r h => by simp [galoistop_TopRepresented.l3] at h⟩
  | k + 1 => by
    obtain ⟨ih0, ih1, ih2, ih3, ih4, ih5⟩ := galoistop_TopRepresented.mono_l k
    refine ⟨?_, ?_, ?_, ?_, ?_, ?_⟩
    · intro y0 y1 y2
      unfold galoistop_TopRepresented.j0
      repeat' first
      | (with_reducible exact ih0 _ _ _)
      | (with_reducible exact ih1 _ _ _ _ _)
      | (with_reducible exact ih2 _ _ _ _ _ _ _ _ _)
      | (with_reducible exact ih3 _ _ _ _ _ _ _ _ _ _)
      | (with_reducible exact ih4 _ _ _ _)
      | (with_reducible exact ih5 _ _ _ _ _)
      | (with_reducible exact galoisref50_IsFundamental.mono _ _)
      | (with_reducible exact galoistop_wideForms.mono _)
      | (with_reducible exact quadratic_Forms.mono _ _)
      | (with_reducible exact quadratic_Kronecker.mono _ _ _)
      | (with_reducible exact LeO.refl _)
      | (with_reducible exact LeO.none _)
      | (with_reducible refine LeO.ite ?_ ?_)
      | (with_reducible refine LeO.bind ?_ (fun _ => ?_))
      | exact ih0 _ _ _
      | exact ih1 _ _ _ _ _
      | exact ih2 _ _ _ _ _ _ _ _ _
      | exact ih3 _ _ _ _ _ _ _ _ _ _
      | exact ih4 _ _ _ _
      | exact ih5 _ _ _ _ _
      | exact galoisref50_IsFundamental.mono _ _
      | exact galoistop_wideForms.mono _
      | exact quadratic_Forms.mono _ _
      | exact quadratic_Kronecker.mono _ _ _
      | exact LeO.none _
      | refine LeO.ite ?_ ?_
      | refine LeO.bind ?_ (fun _ => ?_)
    · intro y0 y1 y2 y3 y4
      unfold galoistop_TopRepresented.l0
      repeat' first
      | (with_reducible exact ih0 _ _ _)
      | (with_reducible exact ih1 _ _ _ _ _)
      | (with_reducible exact ih2 _ _ _ _ _ _ _ _ _)
      | (with_reducible exact ih3 _ _ _ _ _ _ _ _ _ _)
      | (with_reducible exact ih4 _ _ _ _)
      | (with_reducible exact ih5 _ _ _ _ _)
      | (with_reducible exact galoisref50_IsFundamental.mono _ _)
      | (with_reducible exact galoistop_wideForms.mono _)
      | (with_reducible exact quadratic_Forms.mono _ _)
      | (with_reducible exact quadratic_Kronecker.mono _ _ _)
      | (with_reducible exact LeO.refl _)
      | (with_reducible exact LeO.none _)
      | (with_reducible refine LeO.ite ?_ ?_)
      | (with_reducible refine LeO.bind ?_ (fun _ => ?_))
      | exact ih0 _ _ _
      | exact ih1 _ _ _ _ _
      | exact ih2 _ _ _ _ _ _ _ _ _
      | exact ih3 _ _ _ _ _ _ _ _ _ _
      | exact ih4 _ _ _ _
      | exact ih5 _ _ _ _ _
      | exact galoisref50_IsFundamental.mono _ _
      | exact galoistop_wideForms.mono _
      | exact quadratic_Forms.mono _ _
      | exact quadratic_Kronecker.mono _ _ _
      | exact LeO.none _
      | refine LeO.ite ?_ ?_
      | refine LeO.bind ?_ (fun _ => ?_)
    · intro y0 y1 y2 y3 y4 y5 y6 y7 y8
      unfold galoistop_TopRepresented.l1
      repeat' first
      | (with_reducible exact ih0 _ _ _)
      | (with_reducible exact ih1 _ _ _ _ _)
      | (with_reducible exact ih2 _ _ _ _ _ _ _ _ _)
      | (with_reducible exact ih3 _ _ _ _ _ _ _ _ _ _)
      | (with_reducible exact ih4 _ _ _ _)
      | (with_reducible exact ih5 _ _ _ _ _)
      | (with_reducible exact galoisref50_IsFundamental.mono _ _)
      | (with_reducible exact galoistop_wideForms.mono _)
      | (with_reducible exact quadratic_Forms.mono _ _)
      | (with_reducible exact quadratic_Kronecker.mono _ _ _)
      | (with_reducible exact LeO.refl _)
      | (with_reducible exact LeO.none _)
      | (with_reducible refine LeO.ite ?_ ?_)
      | (with_reducible refine LeO.bind ?_ (fun _ => ?_))
      | exact ih0 _ _ _
      | exact ih1 _ _ _ _ _
      | exact ih2 _ _ _ _ _ _ _ _ _
      | exact ih3 _ _ _ _ _ _ _ _ _ _
      | exact ih4 _ _ _ _
      | exact ih5 _ _ _ _ _
      | exact galoisref50_IsFundamental.mono _ _
      | exact galoistop_wideForms.mono _
      | exact quadratic_Forms.mono _ _
      | exact quadratic_Kronecker.mono _ _ _
      | exact LeO.none _
      | refine LeO.ite ?_ ?_
      | refine LeO.bind ?_ (fun _ => ?_)
    · intro y0 y1 y2 y3 y4 y5 y6 y7 y8 y9
      unfold galoistop_TopRepresented.l2
      repeat' first
      | (with_reducible exact ih0 _ _ _)
      | (with_reducible exact ih1 _ _ _ _ _)
      | (with_reducible exact ih2 _ _ _ _ _ _ _ _ _)
      | (with_reducible exact ih3 _ _ _ _ _ _ _ _ _ _)
      | (with_reducible exact ih4 _ _ _ _)
      | (with_reducible exact ih5 _ _ _ _ _)
      | (with_reducible exact galoisref50_IsFundamental.mono _ _)
      | (with_reducible exact galoistop_wideForms.mono _)
      | (with_reducible exact quadratic_Forms.mono _ _)
      | (with_reducible exact quadratic_Kronecker.mono _ _ _)
      | (with_reducible exact LeO.refl _)
      | (with_reducible exact LeO.none _)
      | (with_reducible refine LeO.ite ?_ ?_)
      | (with_reducible refine LeO.bind ?_ (fun _ => ?_))
      | exact ih0 _ _ _
      | exact ih1 _ _ _ _ _
      | exact ih2 _ _ _ _ _ _ _ _ _
      | exact ih3 _ _ _ _ _ _ _ _ _ _
      | exact ih4 _ _ _ _
      | exact ih5 _ _ _ _ _
      | exact galoisref50_IsFundamental.mono _ _
      | exact galoistop_wideForms.mono _
      | exact quadratic_Forms.mono _ _
      | exact quadratic_Kronecker.mono _ _ _
      | exact LeO.none _
      | refine LeO.ite ?_ ?_
      | refine LeO.bind ?_ (fun _ => ?_)
    · intro y0 y1 y2 y3
      unfold galoistop_TopRepresented.j4
      repeat' first
      | (with_reducible exact ih0 _ _ _)
      | (with_reducible exact ih1 _ _ _ _ _)
      | (with_reducible exact ih2 _ _ _ _ _ _ _ _ _)
      | (with_reducible exact ih3 _ _ _ _ _ _ _ _ _ _)
      | (with_reducible exact ih4 _ _ _ _)
      | (with_reducible exact ih5 _ _ _ _ _)
      | (with_reducible exact galoisref50_IsFundamental.mono _ _)
      | (with_reducible exact galoistop_wideForms.mono _)
      | (with_reducible exact quadratic_Forms.mono _ _)
      | (with_reducible exact quadratic_Kronecker.mono _ _ _)
      | (with_reducible exact LeO.refl _)
      | (with_reducible exact LeO.none _)
      | (with_reducible refine LeO.ite ?_ ?_)
      | (with_reducible refine LeO.bind ?_ (fun _ => ?_))
      | exact ih0 _ _ _
      | exact ih1 _ _ _ _ _
      | exact ih2 _ _ _ _ _ _ _ _ _
      | exact ih3 _ _ _ _ _ _ _ _ _ _
      | exact ih4 _ _ _ _
      | exact ih5 _ _ _ _ _
      | exact galoisref50_IsFundamental.mono _ _
      | exact galoistop_wideForms.mono _
      | exact quadratic_Forms.mono _ _
      | exact quadratic_Kronecker.mono _ _ _
      | exact LeO.none _
      | refine LeO.ite ?_ ?_
      | refine LeO.bind ?_ (fun _ => ?_)
    · intro y0 y1 y2 y3 y4
      unfold galoistop_TopRepresented.l3
      repeat' first
      | (with_reducible exact ih0 _ _ _)
      | (with_reducible exact ih1 _ _ _ _ _)
      | (with_reducible exact ih2 _ _ _ _ _ _ _ _ _)
      | (with_reducible exact ih3 _ _ _ _ _ _ _ _ _ _)
      | (with_reducible exact ih4 _ _ _ _)
      | (with_reducible exact ih5 _ _ _ _ _)
      | (with_reducible exact galoisref50_IsFundamental.mono _ _)
      | (with_reducible exact galoistop_wideForms.mono _)
      | (with_reducible exact quadratic_Forms.mono _ _)
      | (with_reducible exact quadratic_Kronecker.mono _ _ _)
      | (with_reducible exact LeO.refl _)
      | (with_reducible exact LeO.none _)
      | (with_reducible refine LeO.ite ?_ ?_)
      | (with_reducible refine LeO.bind ?_ (fun _ => ?_))
      | exact ih0 _ _ _
      | exact ih1 _ _ _ _ _
      | exact ih2 _ _ _ _ _ _ _ _ _
      | exact ih3 _ _ _ _ _ _ _ _ _ _
      | exact ih4 _ _ _ _
      | exact ih5 _ _ _ _ _
      | exact galoisref50_IsFundamental.mono _ _
      | exact galoistop_wideForms.mono _
      | exact quadratic_Forms.mono _ _
      | exact quadratic_Kronecker.mono _ _ _
      | exact LeO.none _
      | refine LeO.ite ?_ ?_
      | refine LeO.bind ?_ (fun _ => ?_)
theorem galoistop_TopRepresented.mono : ∀ a0 a1 k, LeO (galoistop_TopRepresented.f k a0 a1) (galoistop_TopRepresented.f (k + 1) a0 a1) := by
  intro a0 a1 k
  obtain ⟨ih0, ih1, ih2, ih3, ih4, ih5⟩ := galoistop_TopRepresented.mono_l k
  unfold galoistop_TopRepresented.f
  repeat' first
      | (with_reducible exact ih0 _ _ _)
      | (with_reducible exact ih1 _ _ _ _ _)
      | (with_reducible exact ih2 _ _ _ _ _ _ _ _ _)
      | (with_reducible exact ih3 _ _ _ _ _ _ _ _ _ _)
      | (with_reducible exact ih4 _ _ _ _)
      | (with_reducible exact ih5 _ _ _ _ _)
      | (with_reducible exact galoisref50_IsFundamental.mono _ _)
      | (with_reducible exact galoistop_wideForms.mono _)
      | (with_reducible exact quadratic_Forms.mono _ _)
      | (with_reducible exact quadratic_Kronecker.mono _ _ _)
      | (with_reducible exact LeO.refl _)
      | (with_reducible exact LeO.none _)
      | (with_reducible refine LeO.ite ?_ ?_)
      | (with_reducible refine LeO.bind ?_ (fun _ => ?_))
      | exact ih0 _ _ _
      | exact ih1 _ _ _ _ _
      | exact ih2 _ _ _ _ _ _ _ _ _
      | exact ih3 _ _ _ _ _ _ _ _ _ _
      | exact ih4 _ _ _ _
      | exact ih5 _ _ _ _ _
      | exact galoisref50_IsFundamental.mono _ _
      | exact galoistop_wideForms.mono _
      | exact quadratic_Forms.mono _ _
      | exact quadratic_Kronecker.mono _ _ _
      | exact LeO.none _
      | refine LeO.ite ?_ ?_
      | refine LeO.bind ?_ (fun _ => ?_)
set_option maxHeartbeats 8000000 in
set_option maxRecDepth 100000 in
theorem galoistop_TopRepresented.calls (k : Nat) (a0 : Int) (a1 : Int) (r : Bool) (w : World) (h : galoistop_TopRepresented.f k a0 a1 = some r) :
    Calls Try.prog 4 #[.int .i64 a0, .int .i64 a1] w fun e w' => e = .returned (.bool r) ∧ Below w.heap.size w w' := by
  have hu31 := Try.underlying31
  have HB := Aside0.mk (Below.refl w.heap.size w)
  have H : (if a0 > (-3) then (galoistop_TopRepresented.j0 k a0 a1 true) else (if a0 < (-2000) then (galoistop_TopRepresented.j0 k a0 a1 true) else (if a1 < 1 then (galoistop_TopRepresented.j0 k a0 a1 true) else (if a1 > 300 then (galoistop_TopRepresented.j0 k a0 a1 true) else ((galoisref50_IsFundamental.f k a0).bind fun t167 => (galoistop_TopRepresented.j0 k a0 a1 (!t167))))))) = some r := h
  clear h
  have HC3 := Aside0.mk H
  clear H
  go_enter Try.func4, Try.ntmps4
  go_upto_region 1 with (fail)
  go_cut [34] (fun v34 wc => ∃ (kq : Nat) (x34_2 : Bool), v34 = .bool x34_2 ∧ Aside0 (galoistop_TopRepresented.j0 kq a0 a1 x34_2 = some r) ∧ Aside0 (kq ≤ k) ∧ Aside0 (Below w.heap.size w wc))
  case first =>
    have H := HC3.out
    clear HC3
    by_cases c4 : a0 > (-3)
    · rw [if_pos c4] at H
      have c4b0 : decide ((-3) < a0) = true := decide_eq_true c4
      clear c4
      (first | rw [c4b0] | (simp only [i64_w, i32_w]; rw [c4b0]) | skip)
      have H' := Aside0.mk H
      clear H
      go_wp2
      go_meet
      case rel => exact ⟨_, (true), (by first | rfl | (simp; done) | (simp [*]; done)), H', ⟨by first | omega | exact Nat.le_refl _⟩, ⟨by repeat (first | (with_reducible first | exact HB.out | apply below_alloc | apply pw_below_drewN | apply below_drew1) | exact HB.out)⟩⟩
    · rw [if_neg c4] at H
      have c4b0 : decide ((-3) < a0) = false := decide_eq_false c4
      clear c4
      (first | rw [c4b0] | (simp only [i64_w, i32_w]; rw [c4b0]) | skip)
      by_cases c5 : a0 < (-2000)
      · rw [if_pos c5] at H
        have c5b0 : decide (a0 < (-2000)) = true := decide_eq_true c5
        clear c5
        have H' := Aside0.mk H
        clear H
        go_wp2
        go_meet
        case rel => exact ⟨_, (true), (by first | rfl | (simp; done) | (simp [*]; done)), H', ⟨by first | omega | exact Nat.le_refl _⟩, ⟨by repeat (first | (with_reducible first | exact HB.out | apply below_alloc | apply pw_below_drewN | apply below_drew1) | exact HB.out)⟩⟩
      · rw [if_neg c5] at H
        have c5b0 : decide (a0 < (-2000)) = false := decide_eq_false c5
        clear c5
        by_cases c6 : a1 < 1
        · rw [if_pos c6] at H
          have c6b0 : decide (a1 < 1) = true := decide_eq_true c6
          clear c6
          have H' := Aside0.mk H
          clear H
          go_wp2
          go_meet
          case rel => exact ⟨_, (true), (by first | rfl | (simp; done) | (simp [*]; done)), H', ⟨by first | omega | exact Nat.le_refl _⟩, ⟨by repeat (first | (with_reducible first | exact HB.out | apply below_alloc | apply pw_below_drewN | apply below_drew1) | exact HB.out)⟩⟩
        · rw [if_neg c6] at H
          have c6b0 : decide (a1 < 1) = false := decide_eq_false c6
          clear c6
          by_cases c7 : a1 > 300
          · rw [if_pos c7] at H
            have c7b0 : decide (300 < a1) = true := decide_eq_true c7
            clear c7
            have H' := Aside0.mk H
            clear H
            go_wp2
            go_meet
            case rel => exact ⟨_, (true), (by first | rfl | (simp; done) | (simp [*]; done)), H', ⟨by first | omega | exact Nat.le_refl _⟩, ⟨by repeat (first | (with_reducible first | exact HB.out | apply below_alloc | apply pw_below_drewN | apply below_drew1) | exact HB.out)⟩⟩
          · rw [if_neg c7] at H
            have c7b0 : decide (300 < a1) = false := decide_eq_false c7
            clear c7
            replace H := Option.bind_eq_some_iff.mp H
            obtain ⟨t167, A80, H⟩ := H
            replace H : (galoistop_TopRepresented.j0 k a0 a1 (!t167)) = some r := H
            have A8 := Aside0.mk A80
            clear A80
            have H' := Aside0.mk H
            clear H
            go_wp2_with (first | (go_at_call 5; (with_reducible refine (galoisref50_IsFundamental.calls k a0 t167 _ A8.out).mono ?_); rintro e w9 ⟨rfl, hb⟩; have n0_ := Aside0.mk (below_step (by repeat (first | (with_reducible first | exact HB.out | apply below_alloc | apply pw_below_drewN | apply below_drew1) | exact HB.out)) hb); clear HB; have HB := n0_; clear n0_; (try clear hb); (try clear hb2); (try clear hk); (try clear hi)))
            go_meet
            case rel => exact ⟨_, (!t167), (by first | rfl | (simp; done) | (simp [*]; done)), H', ⟨by first | omega | exact Nat.le_refl _⟩, ⟨by repeat (first | (with_reducible first | exact HB.out | apply below_alloc | apply pw_below_drewN | apply below_drew1) | exact HB.out)⟩⟩
  case rest =>
    clear HC3
    try clear p2
    try clear c4
    try clear c4b0
    try clear c5
    try clear c5b0
    try clear c6
    try clear c6b0
    try clear c7
    try clear c7b0
    obtain ⟨kq, x34_2, rfl, HA, HJ2, HB⟩ := hcut
    cases kq with
    | zero => exact absurd HA.out (by simp [galoistop_TopRepresented.j0])
    | succ kj2 =>
      have H := HA.out
      clear HA
      simp only [galoistop_TopRepresented.j0] at H
      by_cases c10 : x34_2 = true
      · subst c10
        have H1 : ((galoistop_wideForms.f kj2).bind fun t168 => (some t168)) = some r := by rw [if_pos rfl] at H; exact H
        clear H
        have H := H1
        clear H1
        replace H := Option.bind_eq_some_iff.mp H
        obtain ⟨t168, A110, H⟩ := H
        replace H : (some t168) = some r := H
        have A11 := Aside0.mk A110
        clear A110
        obtain rfl := Option.some.inj H
        go_wp2_with (first | ((with_reducible refine gate_callee (f := 6) rfl ?_); refine goesL_ (some 35) rfl rfl Try.func6 (by kernel_rfl) rfl #[] rfl (by (try simp only [List.map_toArray, List.map_cons, List.map_nil]); first | done | rfl | (simp only [List.length_drop, List.length_take]; rfl)) ?_; (with_reducible refine (galoistop_wideForms.calls kj2  t168 _ A11.out).mono ?_); rintro e w12 ⟨rfl, hb⟩; refine ⟨_, rfl, ?_⟩; have n0_ := Aside0.mk (below_step (by repeat (first | (with_reducible first | exact HB.out | apply below_alloc | apply pw_below_drewN | apply below_drew1) | exact HB.out)) hb); clear HB; have HB := n0_; clear n0_; (try clear hb); (try clear hb2); (try clear hk); (try clear hi)))
        go_ret
        exact ⟨by first | rfl | (simp [errW_none, errW_some] <;> rfl) | (simp [*, errW_none, errW_some] <;> rfl), by repeat (first | (with_reducible first | exact HB.out | apply below_alloc | apply pw_below_drewN | apply below_drew1) | exact HB.out)⟩
      · replace c10 := Bool.eq_false_iff.mpr c10
        subst c10
        have H1 : ((quadratic_Forms.f kj2 a0).bind fun bt169 => (if bt169.2 = 0 then (galoistop_TopRepresented.l0 kj2 a0 a1 bt169.1 0 0) else (some false))) = some r := by rw [if_neg (show ¬ (false = true) by decide)] at H; exact H
        clear H
        have H := H1
        clear H1
        replace H := Option.bind_eq_some_iff.mp H
        obtain ⟨⟨t169, t170⟩, A130, H⟩ := H
        replace H : (if t170 = 0 then (galoistop_TopRepresented.l0 kj2 a0 a1 t169 0 0) else (some false)) = some r := H
        have A13 := Aside0.mk A130
        clear A130
        by_cases c14 : t170 = 0
        · rw [if_pos c14] at H
          have c14b0 : (t170 == 0) = true := beq_iff_eq.mpr c14
          have c14b1 : (t170 != 0) = false := bne_eq_false_iff_eq.mpr c14
          clear c14
          have H' := Aside0.mk H
          clear H
          go_wp2_with (first | ((with_reducible refine gate_callee (f := 7) rfl ?_); refine goesL_ (some 38) rfl rfl Try.func7 (by kernel_rfl) rfl #[.int .i64 a0] rfl (by (try simp only [List.map_toArray, List.map_cons, List.map_nil]); first | done | rfl | (simp only [List.length_drop, List.length_take]; rfl)) ?_; (with_reducible refine (quadratic_Forms.calls kj2 a0 t169 t170 _ A13.out).mono ?_); rintro e w15 ⟨v171, rfl, ho0, hb⟩; refine ⟨_, rfl, ?_⟩; have n0_ := Aside0.mk (Kd.R_lower ho0 (below_size (by repeat (first | (with_reducible first | exact HB.out | apply below_alloc | apply pw_below_drewN | apply below_drew1) | exact HB.out)))); have n1_ := Aside0.mk (below_step (by repeat (first | (with_reducible first | exact HB.out | apply below_alloc | apply pw_below_drewN | apply below_drew1) | exact HB.out)) hb); clear HB; have HO172 := n0_; have HB := n1_; clear n0_ n1_; (try clear hb); (try clear hb2); (try clear hk); (try clear hi); (try clear ho0)))
          go_loopg [7, 8] kj2 (fun kq v7 v8 w' => ∃ (x7_2 : Int) (x8_2 : Int), v7 = .int .i64 x7_2 ∧ v8 = .int .i64 x8_2 ∧ Aside0 (galoistop_TopRepresented.l0 kq a0 a1 t169 x7_2 x8_2 = some r) ∧ Aside0 (kq ≤ kj2) ∧ Aside0 (Kd.R k31 31 w' w.heap.size (fun _ => True) v171 t169) ∧ Aside0 (Below w.heap.size w w'))
          case atStart => exact ⟨(0), (0), (by first | rfl | (simp; done) | (simp [*]; done)), (by first | rfl | (simp; done) | (simp [*]; done)), H', ⟨Nat.le_refl _⟩, ⟨by (with_reducible repeat (first | apply Kd.R_alloc | apply Kd.R_drewN | apply Kd.R_drew)); exact HO172.out⟩, ⟨by repeat (first | (with_reducible first | exact HB.out | apply below_alloc | apply pw_below_drewN | apply below_drew1) | exact HB.out)⟩⟩
          case round =>
            clear H'
            try clear c1
            try clear p2
            try clear c4
            try clear c4b0
            try clear c5
            try clear c5b0
            try clear c6
            try clear c6b0
            try clear c7
            try clear c7b0
            try clear c10
            try clear c14
            try clear c14b0
            try clear c14b1
            try clear p2
            obtain ⟨x7_2, x8_2, rfl, rfl, HA, HK2, HO_5, HB⟩ := hrel
            cases gk with
            | zero => exact absurd HA.out (by simp [galoistop_TopRepresented.l0])
            | succ k2 =>
              have H := HA.out
              clear HA
              simp only [galoistop_TopRepresented.l0] at H
              by_cases c16 : x8_2 < (t169.length : Int)
              · rw [if_pos c16] at H
                have c16b0 : decide (x8_2 < (t169.length : Int)) = true := decide_eq_true c16
                clear c16
                by_cases c17 : 0 ≤ x8_2
                · rw [if_pos c17] at H
                  have c17b0 : decide (0 ≤ x8_2) = true := decide_eq_true c17
                  clear c17
                  have H' := Aside0.mk H
                  clear H
                  obtain ⟨Ao18, co18, eo18⟩ := Kd.R_slice HO_5.out
                  subst eo18
                  have p173 : 0 ≤ (x8_2 : Int) := of_decide_eq_true (by first | (with_reducible assumption) | assumption)
                  have q173 : x8_2 < (t169.length : Int) := of_decide_eq_true (by first | (with_reducible assumption) | assumption)
                  obtain ⟨ad173, e173, hx173_0, hx173_1, hx173_2⟩ := at_T31 (Kd.R_reads' HO_5.out).2.2 x8_2 p173 q173
                  cases e173
                  replace p173 := eq_true p173
                  replace q173 := eq_true q173
                  go_wp2_with (first | ((with_reducible refine gate_dst (N := 9) rfl ?_); refine box_event ?hg (N := 9) ?hd (cs := #[.int .i64 0, .int .i64 0, .int .i64 0]) (t := 31) ?hr ?_; (case hd => rfl); (case hg => rfl); (case hr => first | (go_simp; done) | (go_simp; rfl)); intro gb174 hg w19 hbox hb; have n0_ := Aside0.mk (Kd.R_below (Kd.R_elderB (by (with_reducible repeat (first | apply Kd.R_alloc | apply Kd.R_drewN | apply Kd.R_drew)); exact HO_5.out) gb174 (Nat.le_of_eq hg.symm)) hb); have n1_ := Aside0.mk (below_step (by repeat (first | (with_reducible first | exact HB.out | apply below_alloc | apply pw_below_drewN | apply below_drew1) | exact HB.out)) hb); have n2_ := Aside0.mk (hbox); have n3_ := Aside0.mk ((by rw [hg]; exact (below_size (by repeat (first | (with_reducible first | exact HB.out | apply below_alloc | apply pw_below_drewN | apply below_drew1) | exact HB.out))) : w.heap.size ≤ gb174)); have n4_ := Aside0.mk ((by rw [hg]; exact (below_size (by repeat (first | (with_reducible first | exact HB.out | apply below_alloc | apply pw_below_drewN | apply below_drew1) | exact HB.out))) : w.heap.size ≤ gb174)); clear HO_5; clear HB; have HO_5 := n0_; have HB := n1_; have BK174 := n2_; have GW174 := n3_; have GE174 := n4_; clear n0_ n1_ n2_ n3_ n4_; clear hb hbox hg; have hcz20_0 : w19.cell? ⟨gb174, 0, none⟩ = some (.int .i64 0) := (blk_cell BK174.out 0).trans rfl; have hcz20_1 : w19.cell? ⟨gb174, 1, none⟩ = some (.int .i64 0) := (blk_cell BK174.out 1).trans rfl; have hcz20_2 : w19.cell? ⟨gb174, 2, none⟩ = some (.int .i64 0) := (blk_cell BK174.out 2).trans rfl; have hfz20_0 := blk_frozen BK174.out 0; have hfz20_1 := blk_frozen BK174.out 1; have hfz20_2 := blk_frozen BK174.out 2))
                  go_loopg [7, 10] k2 (fun kq v7 v10 w' => ∃ (x7_3 : Int) (x10_3 : Int), v7 = .int .i64 x7_3 ∧ v10 = .int .i64 x10_3 ∧ Aside0 (galoistop_TopRepresented.l1 kq a0 a1 t169 x7_3 x8_2 x10_3 ((rd_T31 t169 x8_2).f0) ((rd_T31 t169 x8_2).f1) ((rd_T31 t169 x8_2).f2) = some r) ∧ Aside0 (kq ≤ k2) ∧ Aside0 (Kd.R k31 31 w' w.heap.size (fun k_ => k_ ≠ gb174) (.slice (some ad173) t169.length co18) t169) ∧ Aside0 (w'.heap[gb174]? = some (.cells #[.int .i64 ((rd_T31 t169 x8_2).f0), .int .i64 ((rd_T31 t169 x8_2).f1), .int .i64 ((rd_T31 t169 x8_2).f2)] 31 (0, 0))) ∧ Aside0 (Below w.heap.size w w'))
                  case atStart => exact ⟨(x7_2), ((-24)), (by first | rfl | (simp; done) | (simp [*]; done)), (by first | rfl | (simp; done) | (simp [*]; done)), H', ⟨Nat.le_refl _⟩, ⟨by (with_reducible repeat (first | apply Kd.R_alloc | apply Kd.R_drewN | apply Kd.R_drew)); exact Kd.R_mono (Kd.R_far (p := ⟨gb174, 2, none⟩) (Kd.R_far (p := ⟨gb174, 1, none⟩) (Kd.R_far (p := ⟨gb174, 0, none⟩) (Kd.R_mono HO_5.out (fun k_ hk => (⟨hk, hk.2⟩ : _ ∧ k_ ≠ gb174))) (fun _ hk => hk.2) (.int .i64 ((rd_T31 t169 x8_2).f0))) (fun _ hk => hk.2) (.int .i64 ((rd_T31 t169 x8_2).f1))) (fun _ hk => hk.2) (.int .i64 ((rd_T31 t169 x8_2).f2))) (fun _ hk => hk.1.2)⟩, ⟨by (with_reducible repeat (first | refine blk_drewN ?_ _ | refine blk_drew ?_ | refine blk_alloc ?_ _)); refine blk_put (cs := #[.int .i64 ((rd_T31 t169 x8_2).f0), .int .i64 ((rd_T31 t169 x8_2).f1), .int .i64 0]) ?_ 2 _ rfl; (with_reducible repeat (first | refine blk_drewN ?_ _ | refine blk_drew ?_ | refine blk_alloc ?_ _)); refine blk_put (cs := #[.int .i64 ((rd_T31 t169 x8_2).f0), .int .i64 0, .int .i64 0]) ?_ 1 _ rfl; (with_reducible repeat (first | refine blk_drewN ?_ _ | refine blk_drew ?_ | refine blk_alloc ?_ _)); refine blk_put (cs := #[.int .i64 0, .int .i64 0, .int .i64 0]) ?_ 0 _ rfl; (with_reducible repeat (first | refine blk_drewN ?_ _ | refine blk_drew ?_ | refine blk_alloc ?_ _)); exact BK174.out⟩, ⟨by repeat (first | (with_reducible first | exact HB.out | apply below_alloc | apply pw_below_drewN | apply below_drew1 | refine below_set ?_ GE174.out) | exact HB.out)⟩⟩
                  case round =>
                    clear H'
                    try clear c1
                    try clear p1
                    try clear q1
                    try clear hx1
                    try clear p2
                    try clear c4
                    try clear c4b0
                    try clear c5
                    try clear c5b0
                    try clear c6
                    try clear c6b0
                    try clear c7
                    try clear c7b0
                    try clear c10
                    try clear c14
                    try clear c14b0
                    try clear c14b1
                    try clear c16
                    try clear c16b0
                    try clear c17
                    try clear c17b0
                    try clear p17
                    try clear q17
                    try clear hx17
                    try clear hcz20_0
                    try clear hcz20_1
                    try clear hcz20_2
                    try clear hfz20_0
                    try clear hfz20_1
                    try clear hfz20_2
                    try clear hx173_0
                    try clear hx173_1
                    try clear hx173_2
                    try clear p173
                    try clear p2
                    try clear q173
                    obtain ⟨x7_3, x10_3, rfl, rfl, HA, HK3, HO_5, BK174, HB⟩ := hrel
                    cases gk with
                    | zero => exact absurd HA.out (by simp [galoistop_TopRepresented.l1])
                    | succ k3 =>
                      have H := HA.out
                      clear HA
                      simp only [galoistop_TopRepresented.l1] at H
                      by_cases c21 : x10_3 ≤ 24
                      · rw [if_pos c21] at H
                        have c21b0 : decide (x10_3 ≤ 24) = true := decide_eq_true c21
                        clear c21
                        have H' := Aside0.mk H
                        clear H
                        go_wp2
                        go_loopg [7, 11] k3 (fun kq v7 v11 w' => ∃ (x7_4 : Int) (x11_4 : Int), v7 = .int .i64 x7_4 ∧ v11 = .int .i64 x11_4 ∧ Aside0 (galoistop_TopRepresented.l2 kq a0 a1 t169 x7_4 x8_2 x10_3 x11_4 ((rd_T31 t169 x8_2).f0) ((rd_T31 t169 x8_2).f1) ((rd_T31 t169 x8_2).f2) = some r) ∧ Aside0 (kq ≤ k3) ∧ Aside0 (Kd.R k31 31 w' w.heap.size (fun k_ => k_ ≠ gb174) (.slice (some ad173) t169.length co18) t169) ∧ Aside0 (w'.heap[gb174]? = some (.cells #[.int .i64 ((rd_T31 t169 x8_2).f0), .int .i64 ((rd_T31 t169 x8_2).f1), .int .i64 ((rd_T31 t169 x8_2).f2)] 31 (0, 0))) ∧ Aside0 (Below w.heap.size w w'))
                        case atStart => exact ⟨(x7_3), ((-24)), (by first | rfl | (simp; done) | (simp [*]; done)), (by first | rfl | (simp; done) | (simp [*]; done)), H', ⟨Nat.le_refl _⟩, ⟨by (with_reducible repeat (first | apply Kd.R_alloc | apply Kd.R_drewN | apply Kd.R_drew)); exact HO_5.out⟩, ⟨by (with_reducible repeat (first | refine blk_drewN ?_ _ | refine blk_drew ?_ | refine blk_alloc ?_ _)); exact BK174.out⟩, ⟨by repeat (first | (with_reducible first | exact HB.out | apply below_alloc | apply pw_below_drewN | apply below_drew1 | refine below_set ?_ GE174.out) | exact HB.out)⟩⟩
                        case round =>
                          clear H'
                          try clear c1
                          try clear p1
                          try clear q1
                          try clear hx1
                          try clear c2
                          try clear p2
                          try clear c4
                          try clear c4b0
                          try clear c5
                          try clear c5b0
                          try clear c6
                          try clear c6b0
                          try clear c7
                          try clear c7b0
                          try clear c10
                          try clear c14
                          try clear c14b0
                          try clear c14b1
                          try clear c16
                          try clear c16b0
                          try clear c17
                          try clear c17b0
                          try clear p17
                          try clear q17
                          try clear hx17
                          try clear c21
                          try clear c21b0
                          try clear hcz20_0
                          try clear hcz20_1
                          try clear hcz20_2
                          try clear hfz20_0
                          try clear hfz20_1
                          try clear hfz20_2
                          try clear hx173_0
                          try clear hx173_1
                          try clear hx173_2
                          try clear p1
                          try clear p17
                          try clear p173
                          try clear p2
                          try clear q1
                          try clear q17
                          try clear q173
                          obtain ⟨x7_4, x11_4, rfl, rfl, HA, HK4, HO_5, BK174, HB⟩ := hrel
                          cases gk with
                          | zero => exact absurd HA.out (by simp [galoistop_TopRepresented.l2])
                          | succ k4 =>
                            have H := HA.out
                            clear HA
                            simp only [galoistop_TopRepresented.l2] at H
                            by_cases c22 : x11_4 ≤ 24
                            · rw [if_pos c22] at H
                              have c22b0 : decide (x11_4 ≤ 24) = true := decide_eq_true c22
                              clear c22
                              by_cases c23 : (wrap64 ((wrap64 ((wrap64 ((wrap64 (((rd_T31 t169 x8_2).f0) * x10_3)) * x10_3)) + (wrap64 ((wrap64 (((rd_T31 t169 x8_2).f1) * x10_3)) * x11_4)))) + (wrap64 ((wrap64 (((rd_T31 t169 x8_2).f2) * x11_4)) * x11_4)))) = a1
                              · rw [if_pos c23] at H
                                have c23b0 : ((wrap64 ((wrap64 ((wrap64 ((wrap64 (((rd_T31 t169 x8_2).f0) * x10_3)) * x10_3)) + (wrap64 ((wrap64 (((rd_T31 t169 x8_2).f1) * x10_3)) * x11_4)))) + (wrap64 ((wrap64 (((rd_T31 t169 x8_2).f2) * x11_4)) * x11_4)))) == a1) = true := beq_iff_eq.mpr c23
                                have c23b1 : ((wrap64 ((wrap64 ((wrap64 ((wrap64 (((rd_T31 t169 x8_2).f0) * x10_3)) * x10_3)) + (wrap64 ((wrap64 (((rd_T31 t169 x8_2).f1) * x10_3)) * x11_4)))) + (wrap64 ((wrap64 (((rd_T31 t169 x8_2).f2) * x11_4)) * x11_4)))) != a1) = false := bne_eq_false_iff_eq.mpr c23
                                clear c23
                                have H' := Aside0.mk H
                                clear H
                                have hcz24_0 : wr.cell? ⟨gb174, 0, none⟩ = some (.int .i64 ((rd_T31 t169 x8_2).f0)) := (blk_cell BK174.out 0).trans rfl
                                have hcz24_1 : wr.cell? ⟨gb174, 1, none⟩ = some (.int .i64 ((rd_T31 t169 x8_2).f1)) := (blk_cell BK174.out 1).trans rfl
                                have hcz24_2 : wr.cell? ⟨gb174, 2, none⟩ = some (.int .i64 ((rd_T31 t169 x8_2).f2)) := (blk_cell BK174.out 2).trans rfl
                                have hfz24_0 := blk_frozen BK174.out 0
                                have hfz24_1 := blk_frozen BK174.out 1
                                have hfz24_2 := blk_frozen BK174.out 2
                                go_wp2
                                go_roundg k4
                                case measure => have := HJ2.out; have := HK2.out; have := HK3.out; have := HK4.out; omega
                                case rel => exact ⟨(wrap64 (x7_4 + 1)), (wrap64 (x11_4 + 1)), (by first | rfl | (simp; done) | (simp [*]; done)), (by first | rfl | (simp; done) | (simp [*]; done)), H', ⟨by have := HJ2.out; have := HK2.out; have := HK3.out; have := HK4.out; omega⟩, ⟨by (with_reducible repeat (first | apply Kd.R_alloc | apply Kd.R_drewN | apply Kd.R_drew)); exact HO_5.out⟩, ⟨by (with_reducible repeat (first | refine blk_drewN ?_ _ | refine blk_drew ?_ | refine blk_alloc ?_ _)); exact BK174.out⟩, ⟨by repeat (first | (with_reducible first | exact HB.out | apply below_alloc | apply pw_below_drewN | apply below_drew1 | refine below_set ?_ GE174.out) | exact HB.out)⟩⟩
                              · rw [if_neg c23] at H
                                have c23b0 : ((wrap64 ((wrap64 ((wrap64 ((wrap64 (((rd_T31 t169 x8_2).f0) * x10_3)) * x10_3)) + (wrap64 ((wrap64 (((rd_T31 t169 x8_2).f1) * x10_3)) * x11_4)))) + (wrap64 ((wrap64 (((rd_T31 t169 x8_2).f2) * x11_4)) * x11_4)))) == a1) = false := beq_eq_false_iff_ne.mpr c23
                                have c23b1 : ((wrap64 ((wrap64 ((wrap64 ((wrap64 (((rd_T31 t169 x8_2).f0) * x10_3)) * x10_3)) + (wrap64 ((wrap64 (((rd_T31 t169 x8_2).f1) * x10_3)) * x11_4)))) + (wrap64 ((wrap64 (((rd_T31 t169 x8_2).f2) * x11_4)) * x11_4)))) != a1) = true := bne_iff_ne.mpr c23
                                have H' := Aside0.mk H
                                clear H
                                have hcz25_0 : wr.cell? ⟨gb174, 0, none⟩ = some (.int .i64 ((rd_T31 t169 x8_2).f0)) := (blk_cell BK174.out 0).trans rfl
                                have hcz25_1 : wr.cell? ⟨gb174, 1, none⟩ = some (.int .i64 ((rd_T31 t169 x8_2).f1)) := (blk_cell BK174.out 1).trans rfl
                                have hcz25_2 : wr.cell? ⟨gb174, 2, none⟩ = some (.int .i64 ((rd_T31 t169 x8_2).f2)) := (blk_cell BK174.out 2).trans rfl
                                have hfz25_0 := blk_frozen BK174.out 0
                                have hfz25_1 := blk_frozen BK174.out 1
                                have hfz25_2 := blk_frozen BK174.out 2
                                go_wp2
                                go_roundg k4
                                case measure => have := HJ2.out; have := HK2.out; have := HK3.out; have := HK4.out; omega
                                case rel => exact ⟨(x7_4), (wrap64 (x11_4 + 1)), (by first | rfl | (simp; done) | (simp [*]; done)), (by first | rfl | (simp; done) | (simp [*]; done)), H', ⟨by have := HJ2.out; have := HK2.out; have := HK3.out; have := HK4.out; omega⟩, ⟨by (with_reducible repeat (first | apply Kd.R_alloc | apply Kd.R_drewN | apply Kd.R_drew)); exact HO_5.out⟩, ⟨by (with_reducible repeat (first | refine blk_drewN ?_ _ | refine blk_drew ?_ | refine blk_alloc ?_ _)); exact BK174.out⟩, ⟨by repeat (first | (with_reducible first | exact HB.out | apply below_alloc | apply pw_below_drewN | apply below_drew1 | refine below_set ?_ GE174.out) | exact HB.out)⟩⟩
                            · rw [if_neg c22] at H
                              have c22b0 : decide (x11_4 ≤ 24) = false := decide_eq_false c22
                              clear c22
                              have H' := Aside0.mk H
                              clear H
                              go_wp2
                              go_roundg k4
                              case measure => have := HJ2.out; have := HK2.out; have := HK3.out; have := HK4.out; omega
                              case rel => exact ⟨(x7_4), (wrap64 (x10_3 + 1)), (by first | rfl | (simp; done) | (simp [*]; done)), (by first | rfl | (simp; done) | (simp [*]; done)), H', ⟨by have := HJ2.out; have := HK2.out; have := HK3.out; have := HK4.out; omega⟩, ⟨by (with_reducible repeat (first | apply Kd.R_alloc | apply Kd.R_drewN | apply Kd.R_drew)); exact HO_5.out⟩, ⟨by (with_reducible repeat (first | refine blk_drewN ?_ _ | refine blk_drew ?_ | refine blk_alloc ?_ _)); exact BK174.out⟩, ⟨by repeat (first | (with_reducible first | exact HB.out | apply below_alloc | apply pw_below_drewN | apply below_drew1 | refine below_set ?_ GE174.out) | exact HB.out)⟩⟩
                      · rw [if_neg c21] at H
                        have c21b0 : decide (x10_3 ≤ 24) = false := decide_eq_false c21
                        clear c21
                        have H' := Aside0.mk H
                        clear H
                        go_wp2
                        go_roundg k3
                        case measure => have := HJ2.out; have := HK2.out; have := HK3.out; omega
                        case rel => exact ⟨(x7_3), (wrap64 (x8_2 + 1)), (by first | rfl | (simp; done) | (simp [*]; done)), (by first | rfl | (simp; done) | (simp [*]; done)), H', ⟨by have := HJ2.out; have := HK2.out; have := HK3.out; omega⟩, ⟨by (with_reducible repeat (first | apply Kd.R_alloc | apply Kd.R_drewN | apply Kd.R_drew)); exact Kd.R_mono HO_5.out (fun _ hk => trivial)⟩, ⟨by repeat (first | (with_reducible first | exact HB.out | apply below_alloc | apply pw_below_drewN | apply below_drew1 | refine below_set ?_ GE174.out) | exact HB.out)⟩⟩
                · rw [if_neg c17] at H
                  exact absurd H (by simp)
              · rw [if_neg c16] at H
                have c16b0 : decide (x8_2 < (t169.length : Int)) = false := decide_eq_false c16
                clear c16
                have HC26 := Aside0.mk H
                clear H
                obtain ⟨Ao27, co27, eo27⟩ := Kd.R_slice HO_5.out
                subst eo27
                go_upto_if 86 with (fail)
                go_cut [12] (fun v12 wc => ∃ (kq : Nat) (x12_25 : Int), v12 = .int .i64 x12_25 ∧ Aside0 (galoistop_TopRepresented.j4 kq a0 a1 x7_2 x12_25 = some r) ∧ Aside0 (kq ≤ k2) ∧ Aside0 (Below w.heap.size w wc))
                case first =>
                  have H := HC26.out
                  clear HC26
                  by_cases c28 : a0 = (-3)
                  · rw [if_pos c28] at H
                    have c28b0 : (a0 == (-3)) = true := beq_iff_eq.mpr c28
                    have c28b1 : (a0 != (-3)) = false := bne_eq_false_iff_eq.mpr c28
                    clear c28
                    (first | rw [c28b0] | (simp only [i64_w, i32_w]; rw [c28b0]) | skip)
                    have H' := Aside0.mk H
                    clear H
                    go_wp2
                    go_meet
                    case rel => exact ⟨_, (6), (by first | rfl | (simp; done) | (simp [*]; done)), H', ⟨by have := HJ2.out; have := HK2.out; first | omega | exact Nat.le_refl _⟩, ⟨by repeat (first | (with_reducible first | exact HB.out | apply below_alloc | apply pw_below_drewN | apply below_drew1) | exact HB.out)⟩⟩
                  · rw [if_neg c28] at H
                    have c28b0 : (a0 == (-3)) = false := beq_eq_false_iff_ne.mpr c28
                    have c28b1 : (a0 != (-3)) = true := bne_iff_ne.mpr c28
                    (first | rw [c28b0] | (simp only [i64_w, i32_w]; rw [c28b0]) | skip)
                    by_cases c29 : a0 = (-4)
                    · rw [if_pos c29] at H
                      have c29b0 : (a0 == (-4)) = true := beq_iff_eq.mpr c29
                      have c29b1 : (a0 != (-4)) = false := bne_eq_false_iff_eq.mpr c29
                      clear c29
                      have H' := Aside0.mk H
                      clear H
                      go_wp2
                      go_meet
                      case rel => exact ⟨_, (4), (by first | rfl | (simp; done) | (simp [*]; done)), H', ⟨by have := HJ2.out; have := HK2.out; first | omega | exact Nat.le_refl _⟩, ⟨by repeat (first | (with_reducible first | exact HB.out | apply below_alloc | apply pw_below_drewN | apply below_drew1) | exact HB.out)⟩⟩
                    · rw [if_neg c29] at H
                      have c29b0 : (a0 == (-4)) = false := beq_eq_false_iff_ne.mpr c29
                      have c29b1 : (a0 != (-4)) = true := bne_iff_ne.mpr c29
                      have H' := Aside0.mk H
                      clear H
                      go_wp2
                      go_meet
                      case rel => exact ⟨_, (2), (by first | rfl | (simp; done) | (simp [*]; done)), H', ⟨by have := HJ2.out; have := HK2.out; first | omega | exact Nat.le_refl _⟩, ⟨by repeat (first | (with_reducible first | exact HB.out | apply below_alloc | apply pw_below_drewN | apply below_drew1) | exact HB.out)⟩⟩
                case rest =>
                  clear HC26
                  try clear c1
                  try clear p1
                  try clear q1
                  try clear hx1
                  try clear c2
                  try clear p2
                  try clear c4
                  try clear c4b0
                  try clear c5
                  try clear c5b0
                  try clear c6
                  try clear c6b0
                  try clear p6
                  try clear c7
                  try clear c7b0
                  try clear c10
                  try clear c14
                  try clear c14b0
                  try clear c14b1
                  try clear c16
                  try clear c16b0
                  try clear c17
                  try clear c17b0
                  try clear p17
                  try clear q17
                  try clear hx17
                  try clear c21
                  try clear c21b0
                  try clear c22
                  try clear c22b0
                  try clear c23
                  try clear c23b0
                  try clear c23b1
                  try clear c28
                  try clear c28b0
                  try clear c28b1
                  try clear c29
                  try clear c29b0
                  try clear c29b1
                  try clear hcz20_0
                  try clear hcz20_1
                  try clear hcz20_2
                  try clear hcz24_0
                  try clear hcz24_1
                  try clear hcz24_2
                  try clear hcz25_0
                  try clear hcz25_1
                  try clear hcz25_2
                  try clear hfz20_0
                  try clear hfz20_1
                  try clear hfz20_2
                  try clear hfz24_0
                  try clear hfz24_1
                  try clear hfz24_2
                  try clear hfz25_0
                  try clear hfz25_1
                  try clear hfz25_2
                  try clear hx173_0
                  try clear hx173_1
                  try clear hx173_2
                  try clear p1
                  try clear p17
                  try clear p173
                  try clear p2
                  try clear q1
                  try clear q17
                  try clear q173
                  obtain ⟨kq, x12_25, rfl, HA, HJ25, HB⟩ := hcut
                  cases kq with
                  | zero => exact absurd HA.out (by simp [galoistop_TopRepresented.j4])
                  | succ kj25 =>
                    have H := HA.out
                    clear HA
                    simp only [galoistop_TopRepresented.j4] at H
                    have H' := Aside0.mk H
                    clear H
                    go_wp2
                    go_loopg [7, 13] kj25 (fun kq v7 v13 w' => ∃ (x7_4 : Int) (x13_4 : Int), v7 = .int .i64 x7_4 ∧ v13 = .int .i64 x13_4 ∧ Aside0 (galoistop_TopRepresented.l3 kq a0 a1 x7_4 x12_25 x13_4 = some r) ∧ Aside0 (kq ≤ kj25) ∧ Aside0 (Below w.heap.size w w'))
                    case atStart => exact ⟨(x7_2), (1), (by first | rfl | (simp; done) | (simp [*]; done)), (by first | rfl | (simp; done) | (simp [*]; done)), H', ⟨Nat.le_refl _⟩, ⟨by repeat (first | (with_reducible first | exact HB.out | apply below_alloc | apply pw_below_drewN | apply below_drew1) | exact HB.out)⟩⟩
                    case round =>
                      clear H'
                      try clear c1
                      try clear p1
                      try clear q1
                      try clear hx1
                      try clear c2
                      try clear p2
                      try clear c4
                      try clear c4b0
                      try clear c5
                      try clear c5b0
                      try clear c6
                      try clear c6b0
                      try clear p6
                      try clear c7
                      try clear c7b0
                      try clear c10
                      try clear c14
                      try clear c14b0
                      try clear c14b1
                      try clear c16
                      try clear c16b0
                      try clear c17
                      try clear c17b0
                      try clear p17
                      try clear q17
                      try clear hx17
                      try clear c21
                      try clear c21b0
                      try clear c22
                      try clear c22b0
                      try clear c23
                      try clear c23b0
                      try clear c23b1
                      try clear c28
                      try clear c28b0
                      try clear c28b1
                      try clear c29
                      try clear c29b0
                      try clear c29b1
                      try clear hcz20_0
                      try clear hcz20_1
                      try clear hcz20_2
                      try clear hcz24_0
                      try clear hcz24_1
                      try clear hcz24_2
                      try clear hcz25_0
                      try clear hcz25_1
                      try clear hcz25_2
                      try clear hfz20_0
                      try clear hfz20_1
                      try clear hfz20_2
                      try clear hfz24_0
                      try clear hfz24_1
                      try clear hfz24_2
                      try clear hfz25_0
                      try clear hfz25_1
                      try clear hfz25_2
                      try clear hx173_0
                      try clear hx173_1
                      try clear hx173_2
                      try clear p1
                      try clear p17
                      try clear p173
                      try clear p2
                      try clear p6
                      try clear q1
                      try clear q17
                      try clear q173
                      obtain ⟨x7_4, x13_4, rfl, rfl, HA, HK4, HB⟩ := hrel
                      cases gk with
                      | zero => exact absurd HA.out (by simp [galoistop_TopRepresented.l3])
                      | succ k4 =>
                        have H := HA.out
                        clear HA
                        simp only [galoistop_TopRepresented.l3] at H
                        by_cases c30 : x13_4 ≤ a1
                        · rw [if_pos c30] at H
                          have c30b0 : decide (x13_4 ≤ a1) = true := decide_eq_true c30
                          clear c30
                          by_cases c31 : x13_4 = 0
                          · rw [if_pos c31] at H
                            exact absurd H (by simp)
                          · rw [if_neg c31] at H
                            have c31b0 : (x13_4 == 0) = false := beq_eq_false_iff_ne.mpr c31
                            have c31b1 : (x13_4 != 0) = true := bne_iff_ne.mpr c31
                            by_cases c32 : (Int.tmod a1 x13_4) = 0
                            · rw [if_pos c32] at H
                              have c32b0 : ((Int.tmod a1 x13_4) == 0) = true := beq_iff_eq.mpr c32
                              have c32b1 : ((Int.tmod a1 x13_4) != 0) = false := bne_eq_false_iff_eq.mpr c32
                              clear c32
                              replace H := Option.bind_eq_some_iff.mp H
                              obtain ⟨⟨t176, t177⟩, A330, H⟩ := H
                              replace H : (if t177 = 0 then (galoistop_TopRepresented.l3 k4 a0 a1 (wrap64 (x7_4 - (wrap64 (x12_25 * t176)))) x12_25 (wrap64 (x13_4 + 1))) else (some false)) = some r := H
                              have A33 := Aside0.mk A330
                              clear A330
                              by_cases c34 : t177 = 0
                              · rw [if_pos c34] at H
                                have c34b0 : (t177 == 0) = true := beq_iff_eq.mpr c34
                                have c34b1 : (t177 != 0) = false := bne_eq_false_iff_eq.mpr c34
                                clear c34
                                have H' := Aside0.mk H
                                clear H
                                go_wp2_with (first | ((with_reducible refine gate_callee (f := 8) rfl ?_); refine goesL_ (some 101) rfl rfl Try.func8 (by kernel_rfl) rfl #[.int .i64 a0, .int .i64 x13_4] rfl (by (try simp only [List.map_toArray, List.map_cons, List.map_nil]); first | done | rfl | (simp only [List.length_drop, List.length_take]; rfl)) ?_; (with_reducible refine (quadratic_Kronecker.calls k4 a0 x13_4 t176 t177 _ A33.out).mono ?_); rintro e w35 ⟨rfl, hb⟩; refine ⟨_, rfl, ?_⟩; have n0_ := Aside0.mk (below_step (by repeat (first | (with_reducible first | exact HB.out | apply below_alloc | apply pw_below_drewN | apply below_drew1) | exact HB.out)) hb); clear HB; have HB := n0_; clear n0_; (try clear hb); (try clear hb2); (try clear hk); (try clear hi)))
                                go_roundg k4
                                case measure => have := HJ2.out; have := HK2.out; have := HJ25.out; have := HK4.out; omega
                                case rel => exact ⟨(wrap64 (x7_4 - (wrap64 (x12_25 * t176)))), (wrap64 (x13_4 + 1)), (by first | rfl | (simp; done) | (simp [*]; done)), (by first | rfl | (simp; done) | (simp [*]; done)), H', ⟨by have := HJ2.out; have := HK2.out; have := HJ25.out; have := HK4.out; omega⟩, ⟨by repeat (first | (with_reducible first | exact HB.out | apply below_alloc | apply pw_below_drewN | apply below_drew1) | exact HB.out)⟩⟩
                              · rw [if_neg c34] at H
                                have c34b0 : (t177 == 0) = false := beq_eq_false_iff_ne.mpr c34
                                have c34b1 : (t177 != 0) = true := bne_iff_ne.mpr c34
                                obtain rfl := Option.some.inj H
                                go_wp2_with (first | ((with_reducible refine gate_callee (f := 8) rfl ?_); refine goesL_ (some 101) rfl rfl Try.func8 (by kernel_rfl) rfl #[.int .i64 a0, .int .i64 x13_4] rfl (by (try simp only [List.map_toArray, List.map_cons, List.map_nil]); first | done | rfl | (simp only [List.length_drop, List.length_take]; rfl)) ?_; (with_reducible refine (quadratic_Kronecker.calls k4 a0 x13_4 t176 t177 _ A33.out).mono ?_); rintro e w36 ⟨rfl, hb⟩; refine ⟨_, rfl, ?_⟩; have n0_ := Aside0.mk (below_step (by repeat (first | (with_reducible first | exact HB.out | apply below_alloc | apply pw_below_drewN | apply below_drew1) | exact HB.out)) hb); clear HB; have HB := n0_; clear n0_; (try clear hb); (try clear hb2); (try clear hk); (try clear hi)))
                                go_ret
                                exact ⟨by first | rfl | (simp [errW_none, errW_some] <;> rfl) | (simp [*, errW_none, errW_some] <;> rfl), by repeat (first | (with_reducible first | exact HB.out | apply below_alloc | apply pw_below_drewN | apply below_drew1) | exact HB.out)⟩
                            · rw [if_neg c32] at H
                              have c32b0 : ((Int.tmod a1 x13_4) == 0) = false := beq_eq_false_iff_ne.mpr c32
                              have c32b1 : ((Int.tmod a1 x13_4) != 0) = true := bne_iff_ne.mpr c32
                              have H' := Aside0.mk H
                              clear H
                              go_wp2
                              go_roundg k4
                              case measure => have := HJ2.out; have := HK2.out; have := HJ25.out; have := HK4.out; omega
                              case rel => exact ⟨(x7_4), (wrap64 (x13_4 + 1)), (by first | rfl | (simp; done) | (simp [*]; done)), (by first | rfl | (simp; done) | (simp [*]; done)), H', ⟨by have := HJ2.out; have := HK2.out; have := HJ25.out; have := HK4.out; omega⟩, ⟨by repeat (first | (with_reducible first | exact HB.out | apply below_alloc | apply pw_below_drewN | apply below_drew1) | exact HB.out)⟩⟩
                        · rw [if_neg c30] at H
                          have c30b0 : decide (x13_4 ≤ a1) = false := decide_eq_false c30
                          clear c30
                          by_cases c37 : x7_4 = 0
                          · rw [if_pos c37] at H
                            have c37b0 : (x7_4 == 0) = true := beq_iff_eq.mpr c37
                            have c37b1 : (x7_4 != 0) = false := bne_eq_false_iff_eq.mpr c37
                            clear c37
                            replace H := Option.bind_eq_some_iff.mp H
                            obtain ⟨t175, A380, H⟩ := H
                            replace H : (some t175) = some r := H
                            have A38 := Aside0.mk A380
                            clear A380
                            obtain rfl := Option.some.inj H
                            go_wp2_with (first | (go_at_call 6; (with_reducible refine (galoistop_wideForms.calls k4  t175 _ A38.out).mono ?_); rintro e w39 ⟨rfl, hb⟩; have n0_ := Aside0.mk (below_step (by repeat (first | (with_reducible first | exact HB.out | apply below_alloc | apply pw_below_drewN | apply below_drew1) | exact HB.out)) hb); clear HB; have HB := n0_; clear n0_; (try clear hb); (try clear hb2); (try clear hk); (try clear hi)))
                            go_ret
                            exact ⟨by first | rfl | (simp [errW_none, errW_some] <;> rfl) | (simp [*, errW_none, errW_some] <;> rfl), by repeat (first | (with_reducible first | exact HB.out | apply below_alloc | apply pw_below_drewN | apply below_drew1) | exact HB.out)⟩
                          · rw [if_neg c37] at H
                            have c37b0 : (x7_4 == 0) = false := beq_eq_false_iff_ne.mpr c37
                            have c37b1 : (x7_4 != 0) = true := bne_iff_ne.mpr c37
                            obtain rfl := Option.some.inj H
                            go_wp2
                            go_ret
                            exact ⟨by first | rfl | (simp [errW_none, errW_some] <;> rfl) | (simp [*, errW_none, errW_some] <;> rfl), by repeat (first | (with_reducible first | exact HB.out | apply below_alloc | apply pw_below_drewN | apply below_drew1) | exact HB.out)⟩
        · rw [if_neg c14] at H
          have c14b0 : (t170 == 0) = false := beq_eq_false_iff_ne.mpr c14
          have c14b1 : (t170 != 0) = true := bne_iff_ne.mpr c14
          obtain rfl := Option.some.inj H
          go_wp2_with (first | ((with_reducible refine gate_callee (f := 7) rfl ?_); refine goesL_ (some 38) rfl rfl Try.func7 (by kernel_rfl) rfl #[.int .i64 a0] rfl (by (try simp only [List.map_toArray, List.map_cons, List.map_nil]); first | done | rfl | (simp only [List.length_drop, List.length_take]; rfl)) ?_; (with_reducible refine (quadratic_Forms.calls kj2 a0 t169 t170 _ A13.out).mono ?_); rintro e w40 ⟨v171, rfl, ho0, hb⟩; refine ⟨_, rfl, ?_⟩; have n0_ := Aside0.mk (Kd.R_lower ho0 (below_size (by repeat (first | (with_reducible first | exact HB.out | apply below_alloc | apply pw_below_drewN | apply below_drew1) | exact HB.out)))); have n1_ := Aside0.mk (below_step (by repeat (first | (with_reducible first | exact HB.out | apply below_alloc | apply pw_below_drewN | apply below_drew1) | exact HB.out)) hb); clear HB; have HO172 := n0_; have HB := n1_; clear n0_ n1_; (try clear hb); (try clear hb2); (try clear hk); (try clear hi); (try clear ho0)))
          go_ret
          exact ⟨by first | rfl | (simp [errW_none, errW_some] <;> rfl) | (simp [*, errW_none, errW_some] <;> rfl), by repeat (first | (with_reducible first | exact HB.out | apply below_alloc | apply pw_below_drewN | apply below_drew1) | exact HB.out)⟩

/-- THE ONE PURE STATEMENT of galoistop_TopRepresented: yours. -/
def galoistop_TopRepresented.Pure : Prop := ∀ (a0 : Int) (a1 : Int), (Lit.int .i64 a0).wf = true → (Lit.int .i64 a1).wf = true → ∃ k, galoistop_TopRepresented.f k a0 a1 = some true
theorem galoistop_TopRepresented.walk (P : galoistop_TopRepresented.Pure) (a0 : Int) (a1 : Int) (w : World) (w0 : (Lit.int .i64 a0).wf = true) (w1 : (Lit.int .i64 a1).wf = true) :
    Calls Try.prog 4 #[.int .i64 a0, .int .i64 a1] w fun e w' => e = .returned (.bool true) ∧ Below w.heap.size w w' := by
  obtain ⟨k, h⟩ := P a0 a1 w0 w1
  refine (galoistop_TopRepresented.calls k a0 a1 true w h).mono ?_
  rintro e w' ⟨rfl, hd⟩
  exact ⟨rfl, hd⟩

end Go.Proofs.Ytppdaagiofcmkaa.Q
