-- WRITTEN BY print2.py, this session's driver of the kit's printer, with hand-proved contracts among it.
import Derived.Test.YtppdaagiofcmkaaQx0
import Derived.Test.YtppdaagiofcmkaaQx2
import Derived.Test.YtppdaagiofcmkaaQx3
namespace Go.Proofs.Ytppdaagiofcmkaa.Q
open Go.RowKit Go.Proofs.YtppdaagiofcmkaaW.PrintWords Go.Proofs.YtppdaagiofcmkaaW.PrintLast Go.Proofs.YtppdaagiofcmkaaW.PrintMore
attribute [local go_sem] max2_int min2_int max_two min_two max_three min_three max_four min_four   -- for this text's walks alone
set_option linter.unusedVariables false
set_option linter.unusedSimpArgs false

/-! ### quadratic_Forms: function 7 -/
mutual
def quadratic_Forms.j0 : Nat → Int → Int → Bool → Option ((List (S31)) × Int)
  | 0, _, _, _ => none
  | k + 1, x0, x4, x26 => if x26 = true then (quadratic_Forms.j1 k x0 3) else (quadratic_Forms.j1 k x0 x4)
def quadratic_Forms.j1 : Nat → Int → Int → Option ((List (S31)) × Int)
  | 0, _, _ => none
  | k + 1, x0, x4 => if x4 = 0 then (quadratic_Forms.l0 k x0 ([] : List (S31)) 1) else (some (([] : List (S31)), x4))
def quadratic_Forms.l0 : Nat → Int → List (S31) → Int → Option ((List (S31)) × Int)
  | 0, _, _, _ => none
  | k + 1, x0, x5, x6 => if (wrap64 ((wrap64 (3 * x6)) * x6)) ≤ (wrap64 (-x0)) then (quadratic_Forms.l1 k x0 x5 x6 (wrap64 (-x6))) else ((api_Form.f x5).bind fun t126 => (some (t126, 0)))
def quadratic_Forms.l1 : Nat → Int → List (S31) → Int → Int → Option ((List (S31)) × Int)
  | 0, _, _, _, _ => none
  | k + 1, x0, x5, x6, x7 => if x7 ≤ x6 then (if (wrap64 (4 * x6)) = 0 then (none) else (if (Int.tmod (wrap64 ((wrap64 (x7 * x7)) - x0)) (wrap64 (4 * x6))) = 0 then ((quadratic_reduced.f x6 x7 (wrap64 (Int.tdiv (wrap64 ((wrap64 (x7 * x7)) - x0)) (wrap64 (4 * x6))))).bind fun t128 => (if t128 = true then ((quadratic_gcd.f k x6 x7).bind fun t129 => ((quadratic_gcd.f k t129 (wrap64 (Int.tdiv (wrap64 ((wrap64 (x7 * x7)) - x0)) (wrap64 (4 * x6))))).bind fun t130 => (if t130 = 1 then (if x5.length < 5864062014805 then (quadratic_Forms.l1 k x0 (x5 ++ [(⟨x6, x7, wrap64 (Int.tdiv (wrap64 ((wrap64 (x7 * x7)) - x0)) (wrap64 (4 * x6)))⟩ : S31)]) x6 (wrap64 (x7 + 1))) else (none)) else (quadratic_Forms.l1 k x0 x5 x6 (wrap64 (x7 + 1)))))) else (quadratic_Forms.l1 k x0 x5 x6 (wrap64 (x7 + 1))))) else (quadratic_Forms.l1 k x0 x5 x6 (wrap64 (x7 + 1))))) else (quadratic_Forms.l0 k x0 x5 (wrap64 (x6 + 1)))
end
def quadratic_Forms.f (k : Nat) (a0 : Int) : Option ((List (S31)) × Int) := (quadratic_bounded.f k (([a0] : List Int))).bind fun t124 => (if t124 = 0 then (if a0 ≥ 0 then (quadratic_Forms.j0 k a0 t124 true) else (if a0 < (-10000) then (quadratic_Forms.j0 k a0 t124 true) else ((quadratic_fundamental.f k a0).bind fun t125 => (quadratic_Forms.j0 k a0 t124 (!t125))))) else (quadratic_Forms.j0 k a0 t124 false))
theorem quadratic_Forms.mono_l : ∀ k, (∀ y0 y1 y2, LeO (quadratic_Forms.j0 k y0 y1 y2) (quadratic_Forms.j0 (k + 1) y0 y1 y2)) ∧ (∀ y0 y1, LeO (quadratic_Forms.j1 k y0 y1) (quadratic_Forms.j1 (k + 1) y0 y1)) ∧ (∀ y0 y1 y2, LeO (quadratic_Forms.l0 k y0 y1 y2) (quadratic_Forms.l0 (k + 1) y0 y1 y2)) ∧ (∀ y0 y1 y2 y3, LeO (quadratic_Forms.l1 k y0 y1 y2 y3) (quadratic_Forms.l1 (k + 1) y0 y1 y2 y3))
  | 0 => ⟨fun _ _ _ r h => by simp [quadratic_Forms.j0] at h, fun _ _ r h => by simp [quadratic_Forms.j1] at h, fun _ _ _ r h => by simp [quadratic_Forms.l0] at h, fun _ _ _ _ r h => by simp [quadratic_Forms.l1] at h⟩
  | k + 1 => by
    obtain ⟨ih0, ih1, ih2, ih3⟩ := quadratic_Forms.mono_l k
    refine ⟨?_, ?_, ?_, ?_⟩
    · intro y0 y1 y2
      unfold quadratic_Forms.j0
      repeat' first
      | (with_reducible exact ih0 _ _ _)
      | (with_reducible exact ih1 _ _)
      | (with_reducible exact ih2 _ _ _)
      | (with_reducible exact ih3 _ _ _ _)
      | (with_reducible exact quadratic_bounded.mono _ _)
      | (with_reducible exact quadratic_fundamental.mono _ _)
      | (with_reducible exact quadratic_gcd.mono _ _ _)
      | (with_reducible exact LeO.refl _)
      | (with_reducible exact LeO.none _)
      | (with_reducible refine LeO.ite ?_ ?_)
      | (with_reducible refine LeO.bind ?_ (fun _ => ?_))
      | exact ih0 _ _ _
      | exact ih1 _ _
      | exact ih2 _ _ _
      | exact ih3 _ _ _ _
      | exact quadratic_bounded.mono _ _
      | exact quadratic_fundamental.mono _ _
      | exact quadratic_gcd.mono _ _ _
      | exact LeO.none _
      | refine LeO.ite ?_ ?_
      | refine LeO.bind ?_ (fun _ => ?_)
    · intro y0 y1
      unfold quadratic_Forms.j1
      repeat' first
      | (with_reducible exact ih0 _ _ _)
      | (with_reducible exact ih1 _ _)
      | (with_reducible exact ih2 _ _ _)
      | (with_reducible exact ih3 _ _ _ _)
      | (with_reducible exact quadratic_bounded.mono _ _)
      | (with_reducible exact quadratic_fundamental.mono _ _)
      | (with_reducible exact quadratic_gcd.mono _ _ _)
      | (with_reducible exact LeO.refl _)
      | (with_reducible exact LeO.none _)
      | (with_reducible refine LeO.ite ?_ ?_)
      | (with_reducible refine LeO.bind ?_ (fun _ => ?_))
      | exact ih0 _ _ _
      | exact ih1 _ _
      | exact ih2 _ _ _
      | exact ih3 _ _ _ _
      | exact quadratic_bounded.mono _ _
      | exact quadratic_fundamental.mono _ _
      | exact quadratic_gcd.mono _ _ _
      | exact LeO.none _
      | refine LeO.ite ?_ ?_
      | refine LeO.bind ?_ (fun _ => ?_)
    · intro y0 y1 y2
      unfold quadratic_Forms.l0
      repeat' first
      | (with_reducible exact ih0 _ _ _)
      | (with_reducible exact ih1 _ _)
      | (with_reducible exact ih2 _ _ _)
      | (with_reducible exact ih3 _ _ _ _)
      | (with_reducible exact quadratic_bounded.mono _ _)
      | (with_reducible exact quadratic_fundamental.mono _ _)
      | (with_reducible exact quadratic_gcd.mono _ _ _)
      | (with_reducible exact LeO.refl _)
      | (with_reducible exact LeO.none _)
      | (with_reducible refine LeO.ite ?_ ?_)
      | (with_reducible refine LeO.bind ?_ (fun _ => ?_))
      | exact ih0 _ _ _
      | exact ih1 _ _
      | exact ih2 _ _ _
      | exact ih3 _ _ _ _
      | exact quadratic_bounded.mono _ _
      | exact quadratic_fundamental.mono _ _
      | exact quadratic_gcd.mono _ _ _
      | exact LeO.none _
      | refine LeO.ite ?_ ?_
      | refine LeO.bind ?_ (fun _ => ?_)
    · intro y0 y1 y2 y3
      unfold quadratic_Forms.l1
      repeat' first
      | (with_reducible exact ih0 _ _ _)
      | (with_reducible exact ih1 _ _)
      | (with_reducible exact ih2 _ _ _)
      | (with_reducible exact ih3 _ _ _ _)
      | (with_reducible exact quadratic_bounded.mono _ _)
      | (with_reducible exact quadratic_fundamental.mono _ _)
      | (with_reducible exact quadratic_gcd.mono _ _ _)
      | (with_reducible exact LeO.refl _)
      | (with_reducible exact LeO.none _)
      | (with_reducible refine LeO.ite ?_ ?_)
      | (with_reducible refine LeO.bind ?_ (fun _ => ?_))
      | exact ih0 _ _ _
      | exact ih1 _ _
      | exact ih2 _ _ _
      | exact ih3 _ _ _ _
      | exact quadratic_bounded.mono _ _
      | exact quadratic_fundamental.mono _ _
      | exact quadratic_gcd.mono _ _ _
      | exact LeO.none _
      | refine LeO.ite ?_ ?_
      | refine LeO.bind ?_ (fun _ => ?_)
theorem quadratic_Forms.mono : ∀ a0 k, LeO (quadratic_Forms.f k a0) (quadratic_Forms.f (k + 1) a0) := by
  intro a0 k
  obtain ⟨ih0, ih1, ih2, ih3⟩ := quadratic_Forms.mono_l k
  unfold quadratic_Forms.f
  repeat' first
      | (with_reducible exact ih0 _ _ _)
      | (with_reducible exact ih1 _ _)
      | (with_reducible exact ih2 _ _ _)
      | (with_reducible exact ih3 _ _ _ _)
      | (with_reducible exact quadratic_bounded.mono _ _)
      | (with_reducible exact quadratic_fundamental.mono _ _)
      | (with_reducible exact quadratic_gcd.mono _ _ _)
      | (with_reducible exact LeO.refl _)
      | (with_reducible exact LeO.none _)
      | (with_reducible refine LeO.ite ?_ ?_)
      | (with_reducible refine LeO.bind ?_ (fun _ => ?_))
      | exact ih0 _ _ _
      | exact ih1 _ _
      | exact ih2 _ _ _
      | exact ih3 _ _ _ _
      | exact quadratic_bounded.mono _ _
      | exact quadratic_fundamental.mono _ _
      | exact quadratic_gcd.mono _ _ _
      | exact LeO.none _
      | refine LeO.ite ?_ ?_
      | refine LeO.bind ?_ (fun _ => ?_)
def quadratic_Forms.T15 : Bool × List (List Nat × List Nat) := (true, [([], []), ([0], [0]), ([1, 1], [1]), ([2], [2]), ([3, 2], [2, 3]), ([2], [2]), ([5, 2], [2, 5]), ([4, 6, 2, 2], [2, 4, 6]), ([2], [2]), ([8, 2], [2, 8]), ([7, 9, 7, 2], [2, 7, 9]), ([10, 2], [2, 10]), ([2, 11], [2, 11])])
def quadratic_Forms.B15 : List Nat := [0, 1, 3, 7, 15, 7, 39, 127, 7, 263, 1023, 2047, 4095]
theorem quadratic_Forms.tab15 : rtab .any (opsOf Try.f7 15) = quadratic_Forms.T15 := by kernel_rfl
theorem quadratic_Forms.bits15 : waitsOk quadratic_Forms.T15.2 quadratic_Forms.B15 = true := by kernel_rfl
set_option maxHeartbeats 8000000 in
set_option maxRecDepth 100000 in
theorem quadratic_Forms.calls (k : Nat) (a0 : Int) (r1 : List (S31)) (r2 : Int) (w : World) (h : quadratic_Forms.f k a0 = some (r1, r2)) :
    Calls Try.prog 7 #[.int .i64 a0] w fun e w' => ∃ v0_ : Value, e = .returned (.tuple #[v0_, .int .i64 r2]) ∧ Kd.R k31 31 w' w.heap.size (fun _ => True) v0_ r1 ∧ Below w.heap.size w w' := by
  have hu31 := Try.underlying31
  have HB := Aside0.mk (Below.refl w.heap.size w)
  have H : ((quadratic_bounded.f k (([a0] : List Int))).bind fun t124 => (if t124 = 0 then (if a0 ≥ 0 then (quadratic_Forms.j0 k a0 t124 true) else (if a0 < (-10000) then (quadratic_Forms.j0 k a0 t124 true) else ((quadratic_fundamental.f k a0).bind fun t125 => (quadratic_Forms.j0 k a0 t124 (!t125))))) else (quadratic_Forms.j0 k a0 t124 false))) = some (r1, r2) := h
  clear h
  obtain ⟨y121, hy121⟩ : ∃ y_ : List Int, y_ = (([a0] : List Int)) := ⟨_, rfl⟩
  replace H : ((quadratic_bounded.f k y121).bind fun t124 => (if t124 = 0 then (if a0 ≥ 0 then (quadratic_Forms.j0 k a0 t124 true) else (if a0 < (-10000) then (quadratic_Forms.j0 k a0 t124 true) else ((quadratic_fundamental.f k a0).bind fun t125 => (quadratic_Forms.j0 k a0 t124 (!t125))))) else (quadratic_Forms.j0 k a0 t124 false))) = some (r1, r2) := by first | (rw [hy121]; with_reducible exact H) | (have H2_ := (Option.bind_some _ _).symm.trans H; rw [hy121]; with_reducible exact H2_) | (have H2_ := (Option.bind_some _ _).symm.trans H; with_reducible exact H2_) | with_reducible exact H | (rw [hy121]; exact H) | exact H
  have Ny121 := Aside0.mk hy121
  clear hy121
  replace H := Option.bind_eq_some_iff.mp H
  obtain ⟨t124, A20, H⟩ := H
  replace H : (if t124 = 0 then (if a0 ≥ 0 then (quadratic_Forms.j0 k a0 t124 true) else (if a0 < (-10000) then (quadratic_Forms.j0 k a0 t124 true) else ((quadratic_fundamental.f k a0).bind fun t125 => (quadratic_Forms.j0 k a0 t124 (!t125))))) else (quadratic_Forms.j0 k a0 t124 false)) = some (r1, r2) := H
  have A2 := Aside0.mk A20
  clear A20
  have HC3 := Aside0.mk H
  clear H
  go_enter Try.func7, Try.ntmps7
  go_upto_region 2 with (first | ((with_reducible refine gate_dst (N := 10) rfl ?_); refine Kd.R_lit (Kd.int .i64) _ 3 ?hg (N := 10) ?hd (xs := ([a0] : List Int)) (inner := [.int .i64 a0]) (ok := fun _ => True) (okp := fun _ => True) ?hr ?hp (fun _ hk => hk) trivial (Below.refl _ _) (Nat.le_refl _) (by simp) ?_; (case hd => rfl); (case hg => rfl); (case hr => first | (go_simp; done) | (go_simp; rfl)); (case hp => exact (Reps.one (show Kd.M (Kd.int .i64) _ _ _ a0 [.int .i64 a0] from rfl) (Reps.none _ _))); intro v122 w4 ho5 hb hg_ hnew_; clear hg_ hnew_; (first | rw [← Ny121.out] at ho5 | (simp only [Int.reduceToNat] at ho5; rw [← Ny121.out] at ho5)); have n0_ := Aside0.mk (Kd.R_lower ho5 (below_size (by repeat (first | (with_reducible first | exact HB.out | apply below_alloc | apply pw_below_drewN | apply below_drew1) | exact HB.out)))); have n1_ := Aside0.mk (below_step (by repeat (first | (with_reducible first | exact HB.out | apply below_alloc | apply pw_below_drewN | apply below_drew1) | exact HB.out)) hb); clear HB; have HO123 := n0_; have HB := n1_; clear n0_ n1_; clear hb ho5; obtain ⟨Ao6, co6, eo6⟩ := Kd.R_slice HO123.out; subst eo6) | ((with_reducible refine gate_callee (f := 13) rfl ?_); refine goesL_ (some 11) rfl rfl Try.func13 (by kernel_rfl) rfl #[.slice Ao6 y121.length co6] rfl (by (try simp only [List.map_toArray, List.map_cons, List.map_nil]); first | done | rfl | (simp only [List.length_drop, List.length_take]; rfl)) ?_; (with_reducible refine (quadratic_bounded.calls k _ _ y121 t124 _ ?side1 ?side2 A2.out).mono ?_); (case side1 => repeat (first | exact (Kd.R_reads' HO123.out).2.2 | (with_reducible refine Kd.C_alloc ?_ _) | (with_reducible refine Kd.C_drewN ?_ _) | (with_reducible refine Kd.C_drew ?_))); (case side2 => exact (Kd.R_reads' HO123.out).2.1); rintro e w' ⟨rfl, ⟨nd, rfl⟩⟩; refine ⟨_, rfl, ?_⟩))
  (try simp only [Act.put, List.setIfInBounds_toArray, List.set_cons_zero, List.set_cons_succ])
  go_cut [26] (fun v26 wc => ∃ (kq : Nat) (x26_2 : Bool), v26 = .bool x26_2 ∧ Aside0 (quadratic_Forms.j0 kq a0 t124 x26_2 = some (r1, r2)) ∧ Aside0 (kq ≤ k) ∧ Aside0 (Below w.heap.size w wc))
  case first =>
    have H := HC3.out
    clear HC3
    by_cases c7 : t124 = 0
    · rw [if_pos c7] at H
      have c7b0 : (t124 == 0) = true := beq_iff_eq.mpr c7
      have c7b1 : (t124 != 0) = false := bne_eq_false_iff_eq.mpr c7
      clear c7
      (first | rw [c7b0] | (simp only [i64_w, i32_w]; rw [c7b0]) | skip)
      by_cases c8 : a0 ≥ 0
      · rw [if_pos c8] at H
        have c8b0 : decide (0 ≤ a0) = true := decide_eq_true c8
        clear c8
        have H' := Aside0.mk H
        clear H
        go_wp2
        go_meet
        case rel => exact ⟨_, (true), (by first | rfl | (simp; done) | (simp [*]; done)), H', ⟨by first | omega | exact Nat.le_refl _⟩, ⟨by repeat (first | (with_reducible first | exact HB.out | apply below_alloc | apply pw_below_drewN | apply below_drew1) | exact HB.out)⟩⟩
      · rw [if_neg c8] at H
        have c8b0 : decide (0 ≤ a0) = false := decide_eq_false c8
        clear c8
        by_cases c9 : a0 < (-10000)
        · rw [if_pos c9] at H
          have c9b0 : decide (a0 < (-10000)) = true := decide_eq_true c9
          clear c9
          have H' := Aside0.mk H
          clear H
          go_wp2
          go_meet
          case rel => exact ⟨_, (true), (by first | rfl | (simp; done) | (simp [*]; done)), H', ⟨by first | omega | exact Nat.le_refl _⟩, ⟨by repeat (first | (with_reducible first | exact HB.out | apply below_alloc | apply pw_below_drewN | apply below_drew1) | exact HB.out)⟩⟩
        · rw [if_neg c9] at H
          have c9b0 : decide (a0 < (-10000)) = false := decide_eq_false c9
          clear c9
          replace H := Option.bind_eq_some_iff.mp H
          obtain ⟨t125, A100, H⟩ := H
          replace H : (quadratic_Forms.j0 k a0 t124 (!t125)) = some (r1, r2) := H
          have A10 := Aside0.mk A100
          clear A100
          have H' := Aside0.mk H
          clear H
          go_wp2_with (first | (go_at_call 14; (with_reducible refine (quadratic_fundamental.calls k a0 t125 _ A10.out).mono ?_); rintro e w11 ⟨rfl, hb⟩; have n0_ := Aside0.mk (Kd.R_below (by (with_reducible repeat (first | apply Kd.R_alloc | apply Kd.R_drewN | apply Kd.R_drew)); exact HO123.out) hb); have n1_ := Aside0.mk (below_step (by repeat (first | (with_reducible first | exact HB.out | apply below_alloc | apply pw_below_drewN | apply below_drew1) | exact HB.out)) hb); clear HO123; clear HB; have HO123 := n0_; have HB := n1_; clear n0_ n1_; (try clear hb); (try clear hb2); (try clear hk); (try clear hi)))
          go_meet
          case rel => exact ⟨_, (!t125), (by first | rfl | (simp; done) | (simp [*]; done)), H', ⟨by first | omega | exact Nat.le_refl _⟩, ⟨by repeat (first | (with_reducible first | exact HB.out | apply below_alloc | apply pw_below_drewN | apply below_drew1) | exact HB.out)⟩⟩
    · rw [if_neg c7] at H
      have c7b0 : (t124 == 0) = false := beq_eq_false_iff_ne.mpr c7
      have c7b1 : (t124 != 0) = true := bne_iff_ne.mpr c7
      (first | rw [c7b0] | (simp only [i64_w, i32_w]; rw [c7b0]) | skip)
      have H' := Aside0.mk H
      clear H
      go_wp2
      go_meet
      case rel => exact ⟨_, (false), (by first | rfl | (simp; done) | (simp [*]; done)), H', ⟨by first | omega | exact Nat.le_refl _⟩, ⟨by repeat (first | (with_reducible first | exact HB.out | apply below_alloc | apply pw_below_drewN | apply below_drew1) | exact HB.out)⟩⟩
  case rest =>
    clear HC3
    try clear c1
    try clear p2
    try clear c7
    try clear c7b0
    try clear c7b1
    try clear c8
    try clear c8b0
    try clear c9
    try clear c9b0
    obtain ⟨kq, x26_2, rfl, HA, HJ2, HB⟩ := hcut
    cases kq with
    | zero => exact absurd HA.out (by simp [quadratic_Forms.j0])
    | succ kj2 =>
      have H := HA.out
      clear HA
      simp only [quadratic_Forms.j0] at H
      have HC12 := Aside0.mk H
      clear H
      go_upto_if 26 with (fail)
      go_cut [4] (fun v4 wc => ∃ (kq : Nat) (x4_11 : Int), v4 = .int .i64 x4_11 ∧ Aside0 (quadratic_Forms.j1 kq a0 x4_11 = some (r1, r2)) ∧ Aside0 (kq ≤ kj2) ∧ Aside0 (Below w.heap.size w wc))
      case first =>
        have H := HC12.out
        clear HC12
        by_cases c13 : x26_2 = true
        · subst c13
          have H1 : (quadratic_Forms.j1 kj2 a0 3) = some (r1, r2) := by rw [if_pos rfl] at H; exact H
          clear H
          have H := H1
          clear H1
          have H' := Aside0.mk H
          clear H
          go_wp2
          go_meet
          case rel => exact ⟨_, (3), (by first | rfl | (simp; done) | (simp [*]; done)), H', ⟨by have := HJ2.out; first | omega | exact Nat.le_refl _⟩, ⟨by repeat (first | (with_reducible first | exact HB.out | apply below_alloc | apply pw_below_drewN | apply below_drew1) | exact HB.out)⟩⟩
        · replace c13 := Bool.eq_false_iff.mpr c13
          subst c13
          have H1 : (quadratic_Forms.j1 kj2 a0 t124) = some (r1, r2) := by rw [if_neg (show ¬ (false = true) by decide)] at H; exact H
          clear H
          have H := H1
          clear H1
          have H' := Aside0.mk H
          clear H
          go_wp2
          go_meet
          case rel => exact ⟨_, (t124), (by first | rfl | (simp; done) | (simp [*]; done)), H', ⟨by have := HJ2.out; first | omega | exact Nat.le_refl _⟩, ⟨by repeat (first | (with_reducible first | exact HB.out | apply below_alloc | apply pw_below_drewN | apply below_drew1) | exact HB.out)⟩⟩
      case rest =>
        clear HC12
        try clear c1
        try clear p2
        try clear c7
        try clear c7b0
        try clear c7b1
        try clear c8
        try clear c8b0
        try clear c9
        try clear c9b0
        try clear c13
        try clear p2
        obtain ⟨kq, x4_11, rfl, HA, HJ11, HB⟩ := hcut
        cases kq with
        | zero => exact absurd HA.out (by simp [quadratic_Forms.j1])
        | succ kj11 =>
          have H := HA.out
          clear HA
          simp only [quadratic_Forms.j1] at H
          by_cases c14 : x4_11 = 0
          · rw [if_pos c14] at H
            have c14b0 : (x4_11 == 0) = true := beq_iff_eq.mpr c14
            have c14b1 : (x4_11 != 0) = false := bne_eq_false_iff_eq.mpr c14
            clear c14
            have H' := Aside0.mk H
            clear H
            go_wp2
            go_loopg [5, 6] kj11 (fun kq v5 v6 w' => ∃ (x5_3 : List (S31)) (x6_3 : Int), v6 = .int .i64 x6_3 ∧ Aside0 (quadratic_Forms.l0 kq a0 x5_3 x6_3 = some (r1, r2)) ∧ Aside0 (kq ≤ kj11) ∧ Aside0 (Kd.R k31 31 w' w.heap.size (fun _ => True) v5 x5_3) ∧ Aside0 (Below w.heap.size w w'))
            case atStart => exact ⟨(([] : List (S31))), (1), (by first | rfl | (simp; done) | (simp [*]; done)), H', ⟨Nat.le_refl _⟩, ⟨by first | exact Kd.R_nil _ _ _ _ _ | exact Kd.N_nil _ _ _ _ _ | exact Kd.V_nil _ _ _ _ _ | exact Kd.Q_nil _ _ _ _ _ | exact Kd.S_nil _ _ _ _ _⟩, ⟨by repeat (first | (with_reducible first | exact HB.out | apply below_alloc | apply pw_below_drewN | apply below_drew1) | exact HB.out)⟩⟩
            case round =>
              clear H'
              try clear c1
              try clear p2
              try clear c7
              try clear c7b0
              try clear c7b1
              try clear c8
              try clear c8b0
              try clear c9
              try clear c9b0
              try clear c13
              try clear c14
              try clear c14b0
              try clear c14b1
              try clear p2
              obtain ⟨x5_3, x6_3, rfl, HA, HK3, HO_5, HB⟩ := hrel
              cases gk with
              | zero => exact absurd HA.out (by simp [quadratic_Forms.l0])
              | succ k3 =>
                have H := HA.out
                clear HA
                simp only [quadratic_Forms.l0] at H
                by_cases c15 : (wrap64 ((wrap64 (3 * x6_3)) * x6_3)) ≤ (wrap64 (-a0))
                · rw [if_pos c15] at H
                  have c15b0 : decide ((wrap64 ((wrap64 (3 * x6_3)) * x6_3)) ≤ (wrap64 (-a0))) = true := decide_eq_true c15
                  clear c15
                  have H' := Aside0.mk H
                  clear H
                  go_wp2
                  go_loopg [5, 7] k3 (fun kq v5 v7 w' => ∃ (x5_4 : List (S31)) (x7_4 : Int), v7 = .int .i64 x7_4 ∧ Aside0 (quadratic_Forms.l1 kq a0 x5_4 x6_3 x7_4 = some (r1, r2)) ∧ Aside0 (kq ≤ k3) ∧ Aside0 (Kd.R k31 31 w' w.heap.size (fun _ => True) v5 x5_4) ∧ Aside0 (Below w.heap.size w w'))
                  case atStart => exact ⟨(x5_3), (wrap64 (-x6_3)), (by first | rfl | (simp; done) | (simp [*]; done)), H', ⟨Nat.le_refl _⟩, ⟨by (with_reducible repeat (first | apply Kd.R_alloc | apply Kd.R_drewN | apply Kd.R_drew)); exact HO_5.out⟩, ⟨by repeat (first | (with_reducible first | exact HB.out | apply below_alloc | apply pw_below_drewN | apply below_drew1) | exact HB.out)⟩⟩
                  case round =>
                    clear H'
                    try clear c1
                    try clear p2
                    try clear p6
                    try clear c7
                    try clear c7b0
                    try clear c7b1
                    try clear c8
                    try clear c8b0
                    try clear c9
                    try clear c9b0
                    try clear c13
                    try clear c14
                    try clear c14b0
                    try clear c14b1
                    try clear c15
                    try clear c15b0
                    try clear p2
                    obtain ⟨x5_4, x7_4, rfl, HA, HK4, HO_5, HB⟩ := hrel
                    cases gk with
                    | zero => exact absurd HA.out (by simp [quadratic_Forms.l1])
                    | succ k4 =>
                      have H := HA.out
                      clear HA
                      simp only [quadratic_Forms.l1] at H
                      by_cases c16 : x7_4 ≤ x6_3
                      · rw [if_pos c16] at H
                        have c16b0 : decide (x7_4 ≤ x6_3) = true := decide_eq_true c16
                        clear c16
                        by_cases c17 : (wrap64 (4 * x6_3)) = 0
                        · rw [if_pos c17] at H
                          exact absurd H (by simp)
                        · rw [if_neg c17] at H
                          have c17b0 : ((wrap64 (4 * x6_3)) == 0) = false := beq_eq_false_iff_ne.mpr c17
                          have c17b1 : ((wrap64 (4 * x6_3)) != 0) = true := bne_iff_ne.mpr c17
                          by_cases c18 : (Int.tmod (wrap64 ((wrap64 (x7_4 * x7_4)) - a0)) (wrap64 (4 * x6_3))) = 0
                          · rw [if_pos c18] at H
                            have c18b0 : ((Int.tmod (wrap64 ((wrap64 (x7_4 * x7_4)) - a0)) (wrap64 (4 * x6_3))) == 0) = true := beq_iff_eq.mpr c18
                            have c18b1 : ((Int.tmod (wrap64 ((wrap64 (x7_4 * x7_4)) - a0)) (wrap64 (4 * x6_3))) != 0) = false := bne_eq_false_iff_eq.mpr c18
                            clear c18
                            replace H := Option.bind_eq_some_iff.mp H
                            obtain ⟨t128, A190, H⟩ := H
                            replace H : (if t128 = true then ((quadratic_gcd.f k4 x6_3 x7_4).bind fun t129 => ((quadratic_gcd.f k4 t129 (wrap64 (Int.tdiv (wrap64 ((wrap64 (x7_4 * x7_4)) - a0)) (wrap64 (4 * x6_3))))).bind fun t130 => (if t130 = 1 then (if x5_4.length < 5864062014805 then (quadratic_Forms.l1 k4 a0 (x5_4 ++ [(⟨x6_3, x7_4, wrap64 (Int.tdiv (wrap64 ((wrap64 (x7_4 * x7_4)) - a0)) (wrap64 (4 * x6_3)))⟩ : S31)]) x6_3 (wrap64 (x7_4 + 1))) else (none)) else (quadratic_Forms.l1 k4 a0 x5_4 x6_3 (wrap64 (x7_4 + 1)))))) else (quadratic_Forms.l1 k4 a0 x5_4 x6_3 (wrap64 (x7_4 + 1)))) = some (r1, r2) := H
                            have A19 := Aside0.mk A190
                            clear A190
                            by_cases c20 : t128 = true
                            · subst c20
                              have H1 : ((quadratic_gcd.f k4 x6_3 x7_4).bind fun t129 => ((quadratic_gcd.f k4 t129 (wrap64 (Int.tdiv (wrap64 ((wrap64 (x7_4 * x7_4)) - a0)) (wrap64 (4 * x6_3))))).bind fun t130 => (if t130 = 1 then (if x5_4.length < 5864062014805 then (quadratic_Forms.l1 k4 a0 (x5_4 ++ [(⟨x6_3, x7_4, wrap64 (Int.tdiv (wrap64 ((wrap64 (x7_4 * x7_4)) - a0)) (wrap64 (4 * x6_3)))⟩ : S31)]) x6_3 (wrap64 (x7_4 + 1))) else (none)) else (quadratic_Forms.l1 k4 a0 x5_4 x6_3 (wrap64 (x7_4 + 1)))))) = some (r1, r2) := by rw [if_pos rfl] at H; exact H
                              clear H
                              have H := H1
                              clear H1
                              replace H := Option.bind_eq_some_iff.mp H
                              obtain ⟨t129, A210, H⟩ := H
                              replace H : ((quadratic_gcd.f k4 t129 (wrap64 (Int.tdiv (wrap64 ((wrap64 (x7_4 * x7_4)) - a0)) (wrap64 (4 * x6_3))))).bind fun t130 => (if t130 = 1 then (if x5_4.length < 5864062014805 then (quadratic_Forms.l1 k4 a0 (x5_4 ++ [(⟨x6_3, x7_4, wrap64 (Int.tdiv (wrap64 ((wrap64 (x7_4 * x7_4)) - a0)) (wrap64 (4 * x6_3)))⟩ : S31)]) x6_3 (wrap64 (x7_4 + 1))) else (none)) else (quadratic_Forms.l1 k4 a0 x5_4 x6_3 (wrap64 (x7_4 + 1))))) = some (r1, r2) := H
                              have A21 := Aside0.mk A210
                              clear A210
                              replace H := Option.bind_eq_some_iff.mp H
                              obtain ⟨t130, A220, H⟩ := H
                              replace H : (if t130 = 1 then (if x5_4.length < 5864062014805 then (quadratic_Forms.l1 k4 a0 (x5_4 ++ [(⟨x6_3, x7_4, wrap64 (Int.tdiv (wrap64 ((wrap64 (x7_4 * x7_4)) - a0)) (wrap64 (4 * x6_3)))⟩ : S31)]) x6_3 (wrap64 (x7_4 + 1))) else (none)) else (quadratic_Forms.l1 k4 a0 x5_4 x6_3 (wrap64 (x7_4 + 1)))) = some (r1, r2) := H
                              have A22 := Aside0.mk A220
                              clear A220
                              by_cases c23 : t130 = 1
                              · rw [if_pos c23] at H
                                have c23b0 : (t130 == 1) = true := beq_iff_eq.mpr c23
                                have c23b1 : (t130 != 1) = false := bne_eq_false_iff_eq.mpr c23
                                clear c23
                                by_cases c24 : x5_4.length < 5864062014805
                                · rw [if_pos c24] at H
                                  have LMc24 := Aside0.mk c24
                                  clear c24
                                  obtain ⟨y131, hy131⟩ : ∃ y_ : List (S31), y_ = (x5_4 ++ [(⟨x6_3, x7_4, wrap64 (Int.tdiv (wrap64 ((wrap64 (x7_4 * x7_4)) - a0)) (wrap64 (4 * x6_3)))⟩ : S31)]) := ⟨_, rfl⟩
                                  replace H : (quadratic_Forms.l1 k4 a0 y131 x6_3 (wrap64 (x7_4 + 1))) = some (r1, r2) := by first | (rw [hy131]; with_reducible exact H) | (have H2_ := (Option.bind_some _ _).symm.trans H; rw [hy131]; with_reducible exact H2_) | (have H2_ := (Option.bind_some _ _).symm.trans H; with_reducible exact H2_) | with_reducible exact H | (rw [hy131]; exact H) | exact H
                                  have Ny131 := Aside0.mk hy131
                                  clear hy131
                                  have H' := Aside0.mk H
                                  clear H
                                  try go_wp2_with (first | ((with_reducible refine gate_dst (N := 8) rfl ?_); refine box_event ?hg (N := 8) ?hd (cs := #[.int .i64 0, .int .i64 0, .int .i64 0]) (t := 31) ?hr ?_; (case hd => rfl); (case hg => rfl); (case hr => first | (go_simp; done) | (go_simp; rfl)); intro gb127 hg w25 hbox hb; have n0_ := Aside0.mk (Kd.R_below (Kd.R_elderB (by (with_reducible repeat (first | apply Kd.R_alloc | apply Kd.R_drewN | apply Kd.R_drew)); exact HO_5.out) gb127 (Nat.le_of_eq hg.symm)) hb); have n1_ := Aside0.mk (below_step (by repeat (first | (with_reducible first | exact HB.out | apply below_alloc | apply pw_below_drewN | apply below_drew1) | exact HB.out)) hb); have n2_ := Aside0.mk (hbox); have n3_ := Aside0.mk ((by rw [hg]; exact (below_size (by repeat (first | (with_reducible first | exact HB.out | apply below_alloc | apply pw_below_drewN | apply below_drew1) | exact HB.out))) : w.heap.size ≤ gb127)); have n4_ := Aside0.mk ((by rw [hg]; exact (below_size (by repeat (first | (with_reducible first | exact HB.out | apply below_alloc | apply pw_below_drewN | apply below_drew1) | exact HB.out))) : w.heap.size ≤ gb127)); clear HO_5; clear HB; have HO_5 := n0_; have HB := n1_; have BK127 := n2_; have GW127 := n3_; have GE127 := n4_; clear n0_ n1_ n2_ n3_ n4_; clear hb hbox hg; have hcz26_0 : w25.cell? ⟨gb127, 0, none⟩ = some (.int .i64 0) := (blk_cell BK127.out 0).trans rfl; have hcz26_1 : w25.cell? ⟨gb127, 1, none⟩ = some (.int .i64 0) := (blk_cell BK127.out 1).trans rfl; have hcz26_2 : w25.cell? ⟨gb127, 2, none⟩ = some (.int .i64 0) := (blk_cell BK127.out 2).trans rfl; have hfz26_0 := blk_frozen BK127.out 0; have hfz26_1 := blk_frozen BK127.out 1; have hfz26_2 := blk_frozen BK127.out 2))
                                  have n0_ : Aside0 (Kd.R k31 31 (((w25.setCell ⟨gb127, 0, none⟩ (.int .i64 x6_3)).setCell ⟨gb127, 1, none⟩ (.int .i64 x7_4)).setCell ⟨gb127, 2, none⟩ (.int .i64 (wrap64 (Int.tdiv (wrap64 ((wrap64 (x7_4 * x7_4)) - a0)) (wrap64 (4 * x6_3)))))) w.heap.size (fun k_ => k_ ≠ gb127) u5 x5_4) := ⟨by (with_reducible repeat (first | apply Kd.R_alloc | apply Kd.R_drewN | apply Kd.R_drew)); exact Kd.R_mono (Kd.R_far (p := ⟨gb127, 2, none⟩) (Kd.R_far (p := ⟨gb127, 1, none⟩) (Kd.R_far (p := ⟨gb127, 0, none⟩) (Kd.R_mono HO_5.out (fun k_ hk => (⟨hk, hk.2⟩ : _ ∧ k_ ≠ gb127))) (fun _ hk => hk.2) (.int .i64 x6_3)) (fun _ hk => hk.2) (.int .i64 x7_4)) (fun _ hk => hk.2) (.int .i64 (wrap64 (Int.tdiv (wrap64 ((wrap64 (x7_4 * x7_4)) - a0)) (wrap64 (4 * x6_3)))))) (fun _ hk => hk.1.2)⟩
                                  have n1_ : Aside0 ((((w25.setCell ⟨gb127, 0, none⟩ (.int .i64 x6_3)).setCell ⟨gb127, 1, none⟩ (.int .i64 x7_4)).setCell ⟨gb127, 2, none⟩ (.int .i64 (wrap64 (Int.tdiv (wrap64 ((wrap64 (x7_4 * x7_4)) - a0)) (wrap64 (4 * x6_3)))))).heap[gb127]? = some (.cells #[.int .i64 x6_3, .int .i64 x7_4, .int .i64 (wrap64 (Int.tdiv (wrap64 ((wrap64 (x7_4 * x7_4)) - a0)) (wrap64 (4 * x6_3))))] 31 (0, 0))) := ⟨by (with_reducible repeat (first | refine blk_drewN ?_ _ | refine blk_drew ?_ | refine blk_alloc ?_ _)); refine blk_put (cs := #[.int .i64 x6_3, .int .i64 x7_4, .int .i64 0]) ?_ 2 _ rfl; (with_reducible repeat (first | refine blk_drewN ?_ _ | refine blk_drew ?_ | refine blk_alloc ?_ _)); refine blk_put (cs := #[.int .i64 x6_3, .int .i64 0, .int .i64 0]) ?_ 1 _ rfl; (with_reducible repeat (first | refine blk_drewN ?_ _ | refine blk_drew ?_ | refine blk_alloc ?_ _)); refine blk_put (cs := #[.int .i64 0, .int .i64 0, .int .i64 0]) ?_ 0 _ rfl; (with_reducible repeat (first | refine blk_drewN ?_ _ | refine blk_drew ?_ | refine blk_alloc ?_ _)); exact BK127.out⟩
                                  have n2_ : Aside0 (Below w.heap.size w (((w25.setCell ⟨gb127, 0, none⟩ (.int .i64 x6_3)).setCell ⟨gb127, 1, none⟩ (.int .i64 x7_4)).setCell ⟨gb127, 2, none⟩ (.int .i64 (wrap64 (Int.tdiv (wrap64 ((wrap64 (x7_4 * x7_4)) - a0)) (wrap64 (4 * x6_3))))))) := ⟨by repeat (first | (with_reducible first | exact HB.out | apply below_alloc | apply pw_below_drewN | apply below_drew1 | refine below_set ?_ GE127.out) | exact HB.out)⟩
                                  (try clear HO_5)
                                  (try clear BK127)
                                  (try clear HB)
                                  generalize (((w25.setCell ⟨gb127, 0, none⟩ (.int .i64 x6_3)).setCell ⟨gb127, 1, none⟩ (.int .i64 x7_4)).setCell ⟨gb127, 2, none⟩ (.int .i64 (wrap64 (Int.tdiv (wrap64 ((wrap64 (x7_4 * x7_4)) - a0)) (wrap64 (4 * x6_3)))))) = w27 at n0_ n1_ n2_ ⊢
                                  have HO_5 := n0_
                                  have BK127 := n1_
                                  have HB := n2_
                                  clear n0_ n1_ n2_
                                  have n0_ := Aside0.mk (Kd.R_drew HO_5.out)
                                  have n1_ := Aside0.mk (blk_drew BK127.out)
                                  have n2_ := Aside0.mk (below_drew1 HB.out)
                                  clear HO_5
                                  clear BK127
                                  clear HB
                                  have HO_5 := n0_
                                  have BK127 := n1_
                                  have HB := n2_
                                  clear n0_ n1_ n2_
                                  refine start_ (n := 13) (S := fun w' => w'.cell? ⟨gb127, 0, none⟩ = some (.int .i64 x6_3) ∧ w'.cell? ⟨gb127, 1, none⟩ = some (.int .i64 x7_4) ∧ w'.cell? ⟨gb127, 2, none⟩ = some (.int .i64 (wrap64 (Int.tdiv (wrap64 ((wrap64 (x7_4 * x7_4)) - a0)) (wrap64 (4 * x6_3)))))) (ds := []) #[false, false, false, false, false, false, false, false, false, false, false, false, false] (by kernel_rfl) rfl rfl ⟨(blk_cell BK127.out 0).trans rfl, (blk_cell BK127.out 1).trans rfl, (blk_cell BK127.out 2).trans rfl⟩ (fun hHeld => ?_); refine with_tabW quadratic_Forms.tab15 quadratic_Forms.bits15 (fun HT_ HW_ => ?_)
                                  generalize w27.drew = w28 at HO_5 BK127 HB hHeld ⊢
                                  refine take_ (i := 0) (N := some 66) (v := ?_) (a' := ?_) #[true, false, false, false, false, false, false, false, false, false, false, false, false] rfl rfl (take_ofW HT_.out HW_.out (by kernel_rfl)) (fun _ _ _ h => h) (Or.inl ⟨by rfl, ?_⟩) hHeld ?_ ?_
                                  rotate_left
                                  · rintro w' ⟨s0, s1, s2⟩
                                    go_simp
                                    with_reducible rfl
                                  rotate_left
                                  · simp only [Act.put, List.setIfInBounds_toArray, List.set_cons_zero, List.set_cons_succ, i64_w, i32_w]
                                    rfl
                                  refine one_ (i := 1) (N := some 67) #[true, true, false, false, false, false, false, false, false, false, false, false, false] rfl rfl (one_of HT_.out (by kernel_rfl)) (by decide) (fun K hK => ?_)
                                  refine goes_ Try.func15 (by kernel_rfl) rfl #[.agg #[.int .i64 x6_3, .int .i64 x7_4, .int .i64 (wrap64 (Int.tdiv (wrap64 ((wrap64 (x7_4 * x7_4)) - a0)) (wrap64 (4 * x6_3))))]] (by rfl) rfl rfl (by (try simp only [List.map_toArray, List.map_cons, List.map_nil]); first | done | rfl | (simp only [List.length_drop, List.length_take]; rfl)) ?_
                                  with_reducible refine (quadratic_reduced.calls x6_3 x7_4 (wrap64 (Int.tdiv (wrap64 ((wrap64 (x7_4 * x7_4)) - a0)) (wrap64 (4 * x6_3)))) true _ A19.out).mono ?_
                                  rintro e w29 ⟨rfl, hb⟩
                                  refine ⟨_, rfl, ?_⟩
                                  have n0_ := Aside0.mk (Kd.R_below (by (with_reducible repeat (first | apply Kd.R_alloc | apply Kd.R_drewN | apply Kd.R_drew)); exact HO_5.out) hb)
                                  have n1_ := Aside0.mk (blk_below (g := gb127) (o := .cells #[.int .i64 x6_3, .int .i64 x7_4, .int .i64 (wrap64 (Int.tdiv (wrap64 ((wrap64 (x7_4 * x7_4)) - a0)) (wrap64 (4 * x6_3))))] 31 (0, 0)) (by (with_reducible repeat (first | refine blk_drewN ?_ _ | refine blk_drew ?_ | refine blk_alloc ?_ _)); exact BK127.out) hb)
                                  have n2_ := Aside0.mk (below_step (by repeat (first | (with_reducible first | exact HB.out | apply below_alloc | apply pw_below_drewN | apply below_drew1 | refine below_set ?_ GE127.out) | exact HB.out)) hb)
                                  clear HO_5
                                  clear BK127
                                  clear HB
                                  have HO_5 := n0_
                                  have BK127 := n1_
                                  have HB := n2_
                                  clear n0_ n1_ n2_
                                  (try clear hb)
                                  (try clear hb2)
                                  (try clear hk)
                                  (try clear hi)
                                  refine hK.out _ _ ⟨(blk_cell BK127.out 0).trans rfl, (blk_cell BK127.out 1).trans rfl, (blk_cell BK127.out 2).trans rfl⟩ (fun hHeld => ?_)
                                  clear hK K
                                  refine norm_ (a' := ?_) ?_ ?_
                                  rotate_left
                                  · show Act.put _ (some 67) _ = _
                                    simp only [Act.put, List.setIfInBounds_toArray, List.set_cons_zero, List.set_cons_succ, i64_w, i32_w]
                                    rfl
                                  refine pure_ (i := 2) (N := some 68) (v := ?_) (a' := ?_) #[true, true, true, false, false, false, false, false, false, false, false, false, false] rfl rfl (any_of HT_.out (by kernel_rfl)) (fun _ _ _ h => h) (Or.inl ⟨by rfl, ?_⟩) ?_ ?_
                                  rotate_left
                                  · intro w'
                                    go_simp
                                    with_reducible rfl
                                  rotate_left
                                  · simp only [Act.put, List.setIfInBounds_toArray, List.set_cons_zero, List.set_cons_succ, i64_w, i32_w]
                                    rfl
                                  refine pure_ (i := 3) (N := some 69) (v := ?_) (a' := ?_) #[true, true, true, true, false, false, false, false, false, false, false, false, false] rfl rfl (any_of HT_.out (by kernel_rfl)) (fun _ _ _ h => h) (Or.inl ⟨by rfl, ?_⟩) ?_ ?_
                                  rotate_left
                                  · intro w'
                                    go_simp
                                    with_reducible rfl
                                  rotate_left
                                  · simp only [Act.put, List.setIfInBounds_toArray, List.set_cons_zero, List.set_cons_succ, i64_w, i32_w]
                                    rfl
                                  refine pure_ (i := 5) (N := some 71) (v := ?_) (a' := ?_) #[true, true, true, true, false, true, false, false, false, false, false, false, false] rfl rfl (any_of HT_.out (by kernel_rfl)) (fun _ _ _ h => h) (Or.inl ⟨by rfl, ?_⟩) ?_ ?_
                                  rotate_left
                                  · intro w'
                                    go_simp
                                    with_reducible rfl
                                  rotate_left
                                  · simp only [Act.put, List.setIfInBounds_toArray, List.set_cons_zero, List.set_cons_succ, i64_w, i32_w]
                                    rfl
                                  refine pure_ (i := 8) (N := some 74) (v := ?_) (a' := ?_) #[true, true, true, true, false, true, false, false, true, false, false, false, false] rfl rfl (any_of HT_.out (by kernel_rfl)) (fun _ _ _ h => h) (Or.inl ⟨by rfl, ?_⟩) ?_ ?_
                                  rotate_left
                                  · intro w'
                                    go_simp
                                    with_reducible rfl
                                  rotate_left
                                  · simp only [Act.put, List.setIfInBounds_toArray, List.set_cons_zero, List.set_cons_succ, i64_w, i32_w]
                                    rfl
                                  refine take_ (i := 4) (N := some 70) (v := ?_) (a' := ?_) #[true, true, true, true, true, true, false, false, true, false, false, false, false] rfl rfl (take_ofW HT_.out HW_.out (by kernel_rfl)) (fun _ _ _ h => h) (Or.inl ⟨by rfl, ?_⟩) hHeld ?_ ?_
                                  rotate_left
                                  · rintro w' ⟨s0, s1, s2⟩
                                    go_simp
                                    with_reducible rfl
                                  rotate_left
                                  · simp only [Act.put, List.setIfInBounds_toArray, List.set_cons_zero, List.set_cons_succ, i64_w, i32_w]
                                    rfl
                                  refine take_ (i := 6) (N := some 72) (v := ?_) (a' := ?_) #[true, true, true, true, true, true, true, false, true, false, false, false, false] rfl rfl (take_ofW HT_.out HW_.out (by kernel_rfl)) (fun _ _ _ h => h) (Or.inl ⟨by rfl, ?_⟩) hHeld ?_ ?_
                                  rotate_left
                                  · rintro w' ⟨s0, s1, s2⟩
                                    go_simp
                                    with_reducible rfl
                                  rotate_left
                                  · simp only [Act.put, List.setIfInBounds_toArray, List.set_cons_zero, List.set_cons_succ, i64_w, i32_w]
                                    rfl
                                  refine take_ (i := 9) (N := some 75) (v := ?_) (a' := ?_) #[true, true, true, true, true, true, true, false, true, true, false, false, false] rfl rfl (take_ofW HT_.out HW_.out (by kernel_rfl)) (fun _ _ _ h => h) (Or.inl ⟨by rfl, ?_⟩) hHeld ?_ ?_
                                  rotate_left
                                  · rintro w' ⟨s0, s1, s2⟩
                                    go_simp
                                    with_reducible rfl
                                  rotate_left
                                  · simp only [Act.put, List.setIfInBounds_toArray, List.set_cons_zero, List.set_cons_succ, i64_w, i32_w]
                                    rfl
                                  refine one_ (i := 7) (N := some 73) #[true, true, true, true, true, true, true, true, true, true, false, false, false] rfl rfl (one_of HT_.out (by kernel_rfl)) (by decide) (fun K hK => ?_)
                                  refine goes_ Try.func16 (by kernel_rfl) rfl #[.int .i64 x6_3, .int .i64 x7_4] (by rfl) rfl rfl (by (try simp only [List.map_toArray, List.map_cons, List.map_nil]); first | done | rfl | (simp only [List.length_drop, List.length_take]; rfl)) ?_
                                  with_reducible refine (quadratic_gcd.calls k4 x6_3 x7_4 t129 _ A21.out).mono ?_
                                  rintro e w30 ⟨rfl, hb⟩
                                  refine ⟨_, rfl, ?_⟩
                                  have n0_ := Aside0.mk (Kd.R_below (by (with_reducible repeat (first | apply Kd.R_alloc | apply Kd.R_drewN | apply Kd.R_drew)); exact HO_5.out) hb)
                                  have n1_ := Aside0.mk (blk_below (g := gb127) (o := .cells #[.int .i64 x6_3, .int .i64 x7_4, .int .i64 (wrap64 (Int.tdiv (wrap64 ((wrap64 (x7_4 * x7_4)) - a0)) (wrap64 (4 * x6_3))))] 31 (0, 0)) (by (with_reducible repeat (first | refine blk_drewN ?_ _ | refine blk_drew ?_ | refine blk_alloc ?_ _)); exact BK127.out) hb)
                                  have n2_ := Aside0.mk (below_step (by repeat (first | (with_reducible first | exact HB.out | apply below_alloc | apply pw_below_drewN | apply below_drew1 | refine below_set ?_ GE127.out) | exact HB.out)) hb)
                                  clear HO_5
                                  clear BK127
                                  clear HB
                                  have HO_5 := n0_
                                  have BK127 := n1_
                                  have HB := n2_
                                  clear n0_ n1_ n2_
                                  (try clear hb)
                                  (try clear hb2)
                                  (try clear hk)
                                  (try clear hi)
                                  refine hK.out _ _ ⟨(blk_cell BK127.out 0).trans rfl, (blk_cell BK127.out 1).trans rfl, (blk_cell BK127.out 2).trans rfl⟩ (fun hHeld => ?_)
                                  clear hK K
                                  refine norm_ (a' := ?_) ?_ ?_
                                  rotate_left
                                  · show Act.put _ (some 73) _ = _
                                    simp only [Act.put, List.setIfInBounds_toArray, List.set_cons_zero, List.set_cons_succ, i64_w, i32_w]
                                    rfl
                                  refine one_ (i := 10) (N := some 76) #[true, true, true, true, true, true, true, true, true, true, true, false, false] rfl rfl (one_of HT_.out (by kernel_rfl)) (by decide) (fun K hK => ?_)
                                  refine goes_ Try.func16 (by kernel_rfl) rfl #[.int .i64 t129, .int .i64 (wrap64 (Int.tdiv (wrap64 ((wrap64 (x7_4 * x7_4)) - a0)) (wrap64 (4 * x6_3))))] (by rfl) rfl rfl (by (try simp only [List.map_toArray, List.map_cons, List.map_nil]); first | done | rfl | (simp only [List.length_drop, List.length_take]; rfl)) ?_
                                  with_reducible refine (quadratic_gcd.calls k4 t129 (wrap64 (Int.tdiv (wrap64 ((wrap64 (x7_4 * x7_4)) - a0)) (wrap64 (4 * x6_3)))) t130 _ A22.out).mono ?_
                                  rintro e w31 ⟨rfl, hb⟩
                                  refine ⟨_, rfl, ?_⟩
                                  have n0_ := Aside0.mk (Kd.R_below (by (with_reducible repeat (first | apply Kd.R_alloc | apply Kd.R_drewN | apply Kd.R_drew)); exact HO_5.out) hb)
                                  have n1_ := Aside0.mk (blk_below (g := gb127) (o := .cells #[.int .i64 x6_3, .int .i64 x7_4, .int .i64 (wrap64 (Int.tdiv (wrap64 ((wrap64 (x7_4 * x7_4)) - a0)) (wrap64 (4 * x6_3))))] 31 (0, 0)) (by (with_reducible repeat (first | refine blk_drewN ?_ _ | refine blk_drew ?_ | refine blk_alloc ?_ _)); exact BK127.out) hb)
                                  have n2_ := Aside0.mk (below_step (by repeat (first | (with_reducible first | exact HB.out | apply below_alloc | apply pw_below_drewN | apply below_drew1 | refine below_set ?_ GE127.out) | exact HB.out)) hb)
                                  clear HO_5
                                  clear BK127
                                  clear HB
                                  have HO_5 := n0_
                                  have BK127 := n1_
                                  have HB := n2_
                                  clear n0_ n1_ n2_
                                  (try clear hb)
                                  (try clear hb2)
                                  (try clear hk)
                                  (try clear hi)
                                  refine hK.out _ _ ⟨(blk_cell BK127.out 0).trans rfl, (blk_cell BK127.out 1).trans rfl, (blk_cell BK127.out 2).trans rfl⟩ (fun hHeld => ?_)
                                  clear hK K
                                  refine norm_ (a' := ?_) ?_ ?_
                                  rotate_left
                                  · show Act.put _ (some 76) _ = _
                                    simp only [Act.put, List.setIfInBounds_toArray, List.set_cons_zero, List.set_cons_succ, i64_w, i32_w]
                                    rfl
                                  refine pure_ (i := 11) (N := some 77) (v := ?_) (a' := ?_) #[true, true, true, true, true, true, true, true, true, true, true, true, false] rfl rfl (any_of HT_.out (by kernel_rfl)) (fun _ _ _ h => h) (Or.inl ⟨by rfl, ?_⟩) ?_ ?_
                                  rotate_left
                                  · intro w'
                                    go_simp
                                    with_reducible rfl
                                  rotate_left
                                  · simp only [Act.put, List.setIfInBounds_toArray, List.set_cons_zero, List.set_cons_succ, i64_w, i32_w]
                                    rfl
                                  refine pure_ (i := 12) (N := some 78) (v := ?_) (a' := ?_) #[true, true, true, true, true, true, true, true, true, true, true, true, true] rfl rfl (any_of HT_.out (by kernel_rfl)) (fun _ _ _ h => h) (Or.inl ⟨by rfl, ?_⟩) ?_ ?_
                                  rotate_left
                                  · intro w'
                                    go_simp
                                    with_reducible rfl
                                  rotate_left
                                  · simp only [Act.put, List.setIfInBounds_toArray, List.set_cons_zero, List.set_cons_succ, i64_w, i32_w]
                                    rfl
                                  refine done_ (done_of HT_.out (by kernel_rfl)) ?_
                                  have hcz32_0 : w31.cell? ⟨gb127, 0, none⟩ = some (.int .i64 x6_3) := (blk_cell BK127.out 0).trans rfl
                                  have hcz32_1 : w31.cell? ⟨gb127, 1, none⟩ = some (.int .i64 x7_4) := (blk_cell BK127.out 1).trans rfl
                                  have hcz32_2 : w31.cell? ⟨gb127, 2, none⟩ = some (.int .i64 (wrap64 (Int.tdiv (wrap64 ((wrap64 (x7_4 * x7_4)) - a0)) (wrap64 (4 * x6_3))))) := (blk_cell BK127.out 2).trans rfl
                                  have hfz32_0 := blk_frozen BK127.out 0
                                  have hfz32_1 := blk_frozen BK127.out 1
                                  have hfz32_2 := blk_frozen BK127.out 2
                                  try go_wp2_with (first | ((with_reducible refine gate_builtin (b := .append) (xs := #[.tmp 79, .tmp 81]) rfl ?_); at_builtin; refine Kd.R_append k31 (w0 := w) w.heap.size rfl (.tmp 79) (.tmp 81) 24 31 (.agg #[(.int .i64 0), (.int .i64 0), (.int .i64 0)]) 24 rfl Try.underlying24 info31 rfl (by decide) (by omega) u5 x5_4 (⟨x6_3, x7_4, wrap64 (Int.tdiv (wrap64 ((wrap64 (x7_4 * x7_4)) - a0)) (wrap64 (4 * x6_3)))⟩ : S31) [.int .i64 x6_3, .int .i64 x7_4, .int .i64 (wrap64 (Int.tdiv (wrap64 ((wrap64 (x7_4 * x7_4)) - a0)) (wrap64 (4 * x6_3))))] (fun k_ => k_ ≠ gb127) (fun _ => False) rfl rfl ?aP (fun _ hk => hk.elim) ?aF ?aO ?aB ?aS ?aL ?_; (case aP => exact k31_mkM _ _ _ (⟨x6_3, x7_4, wrap64 (Int.tdiv (wrap64 ((wrap64 (x7_4 * x7_4)) - a0)) (wrap64 (4 * x6_3)))⟩ : S31)); (case aB => exact (by repeat (first | (with_reducible first | exact HB.out | apply below_alloc | apply pw_below_drewN | apply below_drew1 | refine below_set ?_ GE127.out) | exact HB.out))); (case aF => exact (fun k_ hk => Kd.freshB (g := gb127) (o := .cells #[.int .i64 x6_3, .int .i64 x7_4, .int .i64 (wrap64 (Int.tdiv (wrap64 ((wrap64 (x7_4 * x7_4)) - a0)) (wrap64 (4 * x6_3))))] 31 (0, 0)) (by (with_reducible repeat (first | refine blk_drewN ?_ _ | refine blk_drew ?_ | refine blk_alloc ?_ _)); exact BK127.out) k_ hk)); (case aO => exact (by (with_reducible repeat (first | apply Kd.R_alloc | apply Kd.R_drewN | apply Kd.R_drew)); exact HO_5.out)); (case aS => exact (below_size (by repeat (first | (with_reducible first | exact HB.out | apply below_alloc | apply pw_below_drewN | apply below_drew1 | refine below_set ?_ GE127.out) | exact HB.out)))); (case aL => have := LMc24.out; omega); intro v132 w33 ho hb hg hat; rw [← Ny131.out] at ho; have n0_ := Aside0.mk (blk_grown (g := gb127) (o := .cells #[.int .i64 x6_3, .int .i64 x7_4, .int .i64 (wrap64 (Int.tdiv (wrap64 ((wrap64 (x7_4 * x7_4)) - a0)) (wrap64 (4 * x6_3))))] 31 (0, 0)) (by (with_reducible repeat (first | refine blk_drewN ?_ _ | refine blk_drew ?_ | refine blk_alloc ?_ _)); exact BK127.out) hg (Kd.R_away HO_5.out (fun _ hk => hk))); have n1_ := Aside0.mk (hb); have n2_ := Aside0.mk (ho); clear BK127; clear HB; clear HO_5; have BK127 := n0_; have HB := n1_; have HO133 := n2_; clear n0_ n1_ n2_; clear ho hb hg hat))
                                  go_roundg k4
                                  case measure => have := HJ2.out; have := HJ11.out; have := HK3.out; have := HK4.out; omega
                                  case rel => exact ⟨(y131), (wrap64 (x7_4 + 1)), (by first | rfl | (simp; done) | (simp [*]; done)), H', ⟨by have := HJ2.out; have := HJ11.out; have := HK3.out; have := HK4.out; omega⟩, ⟨by (with_reducible repeat (first | apply Kd.R_alloc | apply Kd.R_drewN | apply Kd.R_drew)); exact Kd.R_mono HO133.out (fun _ hk => trivial)⟩, ⟨by repeat (first | (with_reducible first | exact HB.out | apply below_alloc | apply pw_below_drewN | apply below_drew1 | refine below_set ?_ GE127.out) | exact HB.out)⟩⟩
                                · rw [if_neg c24] at H
                                  exact absurd H (by simp)
                              · rw [if_neg c23] at H
                                have c23b0 : (t130 == 1) = false := beq_eq_false_iff_ne.mpr c23
                                have c23b1 : (t130 != 1) = true := bne_iff_ne.mpr c23
                                have H' := Aside0.mk H
                                clear H
                                try go_wp2_with (first | ((with_reducible refine gate_dst (N := 8) rfl ?_); refine box_event ?hg (N := 8) ?hd (cs := #[.int .i64 0, .int .i64 0, .int .i64 0]) (t := 31) ?hr ?_; (case hd => rfl); (case hg => rfl); (case hr => first | (go_simp; done) | (go_simp; rfl)); intro gb127 hg w34 hbox hb; have n0_ := Aside0.mk (Kd.R_below (Kd.R_elderB (by (with_reducible repeat (first | apply Kd.R_alloc | apply Kd.R_drewN | apply Kd.R_drew)); exact HO_5.out) gb127 (Nat.le_of_eq hg.symm)) hb); have n1_ := Aside0.mk (below_step (by repeat (first | (with_reducible first | exact HB.out | apply below_alloc | apply pw_below_drewN | apply below_drew1) | exact HB.out)) hb); have n2_ := Aside0.mk (hbox); have n3_ := Aside0.mk ((by rw [hg]; exact (below_size (by repeat (first | (with_reducible first | exact HB.out | apply below_alloc | apply pw_below_drewN | apply below_drew1) | exact HB.out))) : w.heap.size ≤ gb127)); have n4_ := Aside0.mk ((by rw [hg]; exact (below_size (by repeat (first | (with_reducible first | exact HB.out | apply below_alloc | apply pw_below_drewN | apply below_drew1) | exact HB.out))) : w.heap.size ≤ gb127)); clear HO_5; clear HB; have HO_5 := n0_; have HB := n1_; have BK127 := n2_; have GW127 := n3_; have GE127 := n4_; clear n0_ n1_ n2_ n3_ n4_; clear hb hbox hg; have hcz35_0 : w34.cell? ⟨gb127, 0, none⟩ = some (.int .i64 0) := (blk_cell BK127.out 0).trans rfl; have hcz35_1 : w34.cell? ⟨gb127, 1, none⟩ = some (.int .i64 0) := (blk_cell BK127.out 1).trans rfl; have hcz35_2 : w34.cell? ⟨gb127, 2, none⟩ = some (.int .i64 0) := (blk_cell BK127.out 2).trans rfl; have hfz35_0 := blk_frozen BK127.out 0; have hfz35_1 := blk_frozen BK127.out 1; have hfz35_2 := blk_frozen BK127.out 2))
                                have n0_ : Aside0 (Kd.R k31 31 (((w34.setCell ⟨gb127, 0, none⟩ (.int .i64 x6_3)).setCell ⟨gb127, 1, none⟩ (.int .i64 x7_4)).setCell ⟨gb127, 2, none⟩ (.int .i64 (wrap64 (Int.tdiv (wrap64 ((wrap64 (x7_4 * x7_4)) - a0)) (wrap64 (4 * x6_3)))))) w.heap.size (fun k_ => k_ ≠ gb127) u5 x5_4) := ⟨by (with_reducible repeat (first | apply Kd.R_alloc | apply Kd.R_drewN | apply Kd.R_drew)); exact Kd.R_mono (Kd.R_far (p := ⟨gb127, 2, none⟩) (Kd.R_far (p := ⟨gb127, 1, none⟩) (Kd.R_far (p := ⟨gb127, 0, none⟩) (Kd.R_mono HO_5.out (fun k_ hk => (⟨hk, hk.2⟩ : _ ∧ k_ ≠ gb127))) (fun _ hk => hk.2) (.int .i64 x6_3)) (fun _ hk => hk.2) (.int .i64 x7_4)) (fun _ hk => hk.2) (.int .i64 (wrap64 (Int.tdiv (wrap64 ((wrap64 (x7_4 * x7_4)) - a0)) (wrap64 (4 * x6_3)))))) (fun _ hk => hk.1.2)⟩
                                have n1_ : Aside0 ((((w34.setCell ⟨gb127, 0, none⟩ (.int .i64 x6_3)).setCell ⟨gb127, 1, none⟩ (.int .i64 x7_4)).setCell ⟨gb127, 2, none⟩ (.int .i64 (wrap64 (Int.tdiv (wrap64 ((wrap64 (x7_4 * x7_4)) - a0)) (wrap64 (4 * x6_3)))))).heap[gb127]? = some (.cells #[.int .i64 x6_3, .int .i64 x7_4, .int .i64 (wrap64 (Int.tdiv (wrap64 ((wrap64 (x7_4 * x7_4)) - a0)) (wrap64 (4 * x6_3))))] 31 (0, 0))) := ⟨by (with_reducible repeat (first | refine blk_drewN ?_ _ | refine blk_drew ?_ | refine blk_alloc ?_ _)); refine blk_put (cs := #[.int .i64 x6_3, .int .i64 x7_4, .int .i64 0]) ?_ 2 _ rfl; (with_reducible repeat (first | refine blk_drewN ?_ _ | refine blk_drew ?_ | refine blk_alloc ?_ _)); refine blk_put (cs := #[.int .i64 x6_3, .int .i64 0, .int .i64 0]) ?_ 1 _ rfl; (with_reducible repeat (first | refine blk_drewN ?_ _ | refine blk_drew ?_ | refine blk_alloc ?_ _)); refine blk_put (cs := #[.int .i64 0, .int .i64 0, .int .i64 0]) ?_ 0 _ rfl; (with_reducible repeat (first | refine blk_drewN ?_ _ | refine blk_drew ?_ | refine blk_alloc ?_ _)); exact BK127.out⟩
                                have n2_ : Aside0 (Below w.heap.size w (((w34.setCell ⟨gb127, 0, none⟩ (.int .i64 x6_3)).setCell ⟨gb127, 1, none⟩ (.int .i64 x7_4)).setCell ⟨gb127, 2, none⟩ (.int .i64 (wrap64 (Int.tdiv (wrap64 ((wrap64 (x7_4 * x7_4)) - a0)) (wrap64 (4 * x6_3))))))) := ⟨by repeat (first | (with_reducible first | exact HB.out | apply below_alloc | apply pw_below_drewN | apply below_drew1 | refine below_set ?_ GE127.out) | exact HB.out)⟩
                                (try clear HO_5)
                                (try clear BK127)
                                (try clear HB)
                                generalize (((w34.setCell ⟨gb127, 0, none⟩ (.int .i64 x6_3)).setCell ⟨gb127, 1, none⟩ (.int .i64 x7_4)).setCell ⟨gb127, 2, none⟩ (.int .i64 (wrap64 (Int.tdiv (wrap64 ((wrap64 (x7_4 * x7_4)) - a0)) (wrap64 (4 * x6_3)))))) = w36 at n0_ n1_ n2_ ⊢
                                have HO_5 := n0_
                                have BK127 := n1_
                                have HB := n2_
                                clear n0_ n1_ n2_
                                have n0_ := Aside0.mk (Kd.R_drew HO_5.out)
                                have n1_ := Aside0.mk (blk_drew BK127.out)
                                have n2_ := Aside0.mk (below_drew1 HB.out)
                                clear HO_5
                                clear BK127
                                clear HB
                                have HO_5 := n0_
                                have BK127 := n1_
                                have HB := n2_
                                clear n0_ n1_ n2_
                                refine start_ (n := 13) (S := fun w' => w'.cell? ⟨gb127, 0, none⟩ = some (.int .i64 x6_3) ∧ w'.cell? ⟨gb127, 1, none⟩ = some (.int .i64 x7_4) ∧ w'.cell? ⟨gb127, 2, none⟩ = some (.int .i64 (wrap64 (Int.tdiv (wrap64 ((wrap64 (x7_4 * x7_4)) - a0)) (wrap64 (4 * x6_3)))))) (ds := []) #[false, false, false, false, false, false, false, false, false, false, false, false, false] (by kernel_rfl) rfl rfl ⟨(blk_cell BK127.out 0).trans rfl, (blk_cell BK127.out 1).trans rfl, (blk_cell BK127.out 2).trans rfl⟩ (fun hHeld => ?_); refine with_tabW quadratic_Forms.tab15 quadratic_Forms.bits15 (fun HT_ HW_ => ?_)
                                generalize w36.drew = w37 at HO_5 BK127 HB hHeld ⊢
                                refine take_ (i := 0) (N := some 66) (v := ?_) (a' := ?_) #[true, false, false, false, false, false, false, false, false, false, false, false, false] rfl rfl (take_ofW HT_.out HW_.out (by kernel_rfl)) (fun _ _ _ h => h) (Or.inl ⟨by rfl, ?_⟩) hHeld ?_ ?_
                                rotate_left
                                · rintro w' ⟨s0, s1, s2⟩
                                  go_simp
                                  with_reducible rfl
                                rotate_left
                                · simp only [Act.put, List.setIfInBounds_toArray, List.set_cons_zero, List.set_cons_succ, i64_w, i32_w]
                                  rfl
                                refine one_ (i := 1) (N := some 67) #[true, true, false, false, false, false, false, false, false, false, false, false, false] rfl rfl (one_of HT_.out (by kernel_rfl)) (by decide) (fun K hK => ?_)
                                refine goes_ Try.func15 (by kernel_rfl) rfl #[.agg #[.int .i64 x6_3, .int .i64 x7_4, .int .i64 (wrap64 (Int.tdiv (wrap64 ((wrap64 (x7_4 * x7_4)) - a0)) (wrap64 (4 * x6_3))))]] (by rfl) rfl rfl (by (try simp only [List.map_toArray, List.map_cons, List.map_nil]); first | done | rfl | (simp only [List.length_drop, List.length_take]; rfl)) ?_
                                with_reducible refine (quadratic_reduced.calls x6_3 x7_4 (wrap64 (Int.tdiv (wrap64 ((wrap64 (x7_4 * x7_4)) - a0)) (wrap64 (4 * x6_3)))) true _ A19.out).mono ?_
                                rintro e w38 ⟨rfl, hb⟩
                                refine ⟨_, rfl, ?_⟩
                                have n0_ := Aside0.mk (Kd.R_below (by (with_reducible repeat (first | apply Kd.R_alloc | apply Kd.R_drewN | apply Kd.R_drew)); exact HO_5.out) hb)
                                have n1_ := Aside0.mk (blk_below (g := gb127) (o := .cells #[.int .i64 x6_3, .int .i64 x7_4, .int .i64 (wrap64 (Int.tdiv (wrap64 ((wrap64 (x7_4 * x7_4)) - a0)) (wrap64 (4 * x6_3))))] 31 (0, 0)) (by (with_reducible repeat (first | refine blk_drewN ?_ _ | refine blk_drew ?_ | refine blk_alloc ?_ _)); exact BK127.out) hb)
                                have n2_ := Aside0.mk (below_step (by repeat (first | (with_reducible first | exact HB.out | apply below_alloc | apply pw_below_drewN | apply below_drew1 | refine below_set ?_ GE127.out) | exact HB.out)) hb)
                                clear HO_5
                                clear BK127
                                clear HB
                                have HO_5 := n0_
                                have BK127 := n1_
                                have HB := n2_
                                clear n0_ n1_ n2_
                                (try clear hb)
                                (try clear hb2)
                                (try clear hk)
                                (try clear hi)
                                refine hK.out _ _ ⟨(blk_cell BK127.out 0).trans rfl, (blk_cell BK127.out 1).trans rfl, (blk_cell BK127.out 2).trans rfl⟩ (fun hHeld => ?_)
                                clear hK K
                                refine norm_ (a' := ?_) ?_ ?_
                                rotate_left
                                · show Act.put _ (some 67) _ = _
                                  simp only [Act.put, List.setIfInBounds_toArray, List.set_cons_zero, List.set_cons_succ, i64_w, i32_w]
                                  rfl
                                refine pure_ (i := 2) (N := some 68) (v := ?_) (a' := ?_) #[true, true, true, false, false, false, false, false, false, false, false, false, false] rfl rfl (any_of HT_.out (by kernel_rfl)) (fun _ _ _ h => h) (Or.inl ⟨by rfl, ?_⟩) ?_ ?_
                                rotate_left
                                · intro w'
                                  go_simp
                                  with_reducible rfl
                                rotate_left
                                · simp only [Act.put, List.setIfInBounds_toArray, List.set_cons_zero, List.set_cons_succ, i64_w, i32_w]
                                  rfl
                                refine pure_ (i := 3) (N := some 69) (v := ?_) (a' := ?_) #[true, true, true, true, false, false, false, false, false, false, false, false, false] rfl rfl (any_of HT_.out (by kernel_rfl)) (fun _ _ _ h => h) (Or.inl ⟨by rfl, ?_⟩) ?_ ?_
                                rotate_left
                                · intro w'
                                  go_simp
                                  with_reducible rfl
                                rotate_left
                                · simp only [Act.put, List.setIfInBounds_toArray, List.set_cons_zero, List.set_cons_succ, i64_w, i32_w]
                                  rfl
                                refine pure_ (i := 5) (N := some 71) (v := ?_) (a' := ?_) #[true, true, true, true, false, true, false, false, false, false, false, false, false] rfl rfl (any_of HT_.out (by kernel_rfl)) (fun _ _ _ h => h) (Or.inl ⟨by rfl, ?_⟩) ?_ ?_
                                rotate_left
                                · intro w'
                                  go_simp
                                  with_reducible rfl
                                rotate_left
                                · simp only [Act.put, List.setIfInBounds_toArray, List.set_cons_zero, List.set_cons_succ, i64_w, i32_w]
                                  rfl
                                refine pure_ (i := 8) (N := some 74) (v := ?_) (a' := ?_) #[true, true, true, true, false, true, false, false, true, false, false, false, false] rfl rfl (any_of HT_.out (by kernel_rfl)) (fun _ _ _ h => h) (Or.inl ⟨by rfl, ?_⟩) ?_ ?_
                                rotate_left
                                · intro w'
                                  go_simp
                                  with_reducible rfl
                                rotate_left
                                · simp only [Act.put, List.setIfInBounds_toArray, List.set_cons_zero, List.set_cons_succ, i64_w, i32_w]
                                  rfl
                                refine take_ (i := 4) (N := some 70) (v := ?_) (a' := ?_) #[true, true, true, true, true, true, false, false, true, false, false, false, false] rfl rfl (take_ofW HT_.out HW_.out (by kernel_rfl)) (fun _ _ _ h => h) (Or.inl ⟨by rfl, ?_⟩) hHeld ?_ ?_
                                rotate_left
                                · rintro w' ⟨s0, s1, s2⟩
                                  go_simp
                                  with_reducible rfl
                                rotate_left
                                · simp only [Act.put, List.setIfInBounds_toArray, List.set_cons_zero, List.set_cons_succ, i64_w, i32_w]
                                  rfl
                                refine take_ (i := 6) (N := some 72) (v := ?_) (a' := ?_) #[true, true, true, true, true, true, true, false, true, false, false, false, false] rfl rfl (take_ofW HT_.out HW_.out (by kernel_rfl)) (fun _ _ _ h => h) (Or.inl ⟨by rfl, ?_⟩) hHeld ?_ ?_
                                rotate_left
                                · rintro w' ⟨s0, s1, s2⟩
                                  go_simp
                                  with_reducible rfl
                                rotate_left
                                · simp only [Act.put, List.setIfInBounds_toArray, List.set_cons_zero, List.set_cons_succ, i64_w, i32_w]
                                  rfl
                                refine take_ (i := 9) (N := some 75) (v := ?_) (a' := ?_) #[true, true, true, true, true, true, true, false, true, true, false, false, false] rfl rfl (take_ofW HT_.out HW_.out (by kernel_rfl)) (fun _ _ _ h => h) (Or.inl ⟨by rfl, ?_⟩) hHeld ?_ ?_
                                rotate_left
                                · rintro w' ⟨s0, s1, s2⟩
                                  go_simp
                                  with_reducible rfl
                                rotate_left
                                · simp only [Act.put, List.setIfInBounds_toArray, List.set_cons_zero, List.set_cons_succ, i64_w, i32_w]
                                  rfl
                                refine one_ (i := 7) (N := some 73) #[true, true, true, true, true, true, true, true, true, true, false, false, false] rfl rfl (one_of HT_.out (by kernel_rfl)) (by decide) (fun K hK => ?_)
                                refine goes_ Try.func16 (by kernel_rfl) rfl #[.int .i64 x6_3, .int .i64 x7_4] (by rfl) rfl rfl (by (try simp only [List.map_toArray, List.map_cons, List.map_nil]); first | done | rfl | (simp only [List.length_drop, List.length_take]; rfl)) ?_
                                with_reducible refine (quadratic_gcd.calls k4 x6_3 x7_4 t129 _ A21.out).mono ?_
                                rintro e w39 ⟨rfl, hb⟩
                                refine ⟨_, rfl, ?_⟩
                                have n0_ := Aside0.mk (Kd.R_below (by (with_reducible repeat (first | apply Kd.R_alloc | apply Kd.R_drewN | apply Kd.R_drew)); exact HO_5.out) hb)
                                have n1_ := Aside0.mk (blk_below (g := gb127) (o := .cells #[.int .i64 x6_3, .int .i64 x7_4, .int .i64 (wrap64 (Int.tdiv (wrap64 ((wrap64 (x7_4 * x7_4)) - a0)) (wrap64 (4 * x6_3))))] 31 (0, 0)) (by (with_reducible repeat (first | refine blk_drewN ?_ _ | refine blk_drew ?_ | refine blk_alloc ?_ _)); exact BK127.out) hb)
                                have n2_ := Aside0.mk (below_step (by repeat (first | (with_reducible first | exact HB.out | apply below_alloc | apply pw_below_drewN | apply below_drew1 | refine below_set ?_ GE127.out) | exact HB.out)) hb)
                                clear HO_5
                                clear BK127
                                clear HB
                                have HO_5 := n0_
                                have BK127 := n1_
                                have HB := n2_
                                clear n0_ n1_ n2_
                                (try clear hb)
                                (try clear hb2)
                                (try clear hk)
                                (try clear hi)
                                refine hK.out _ _ ⟨(blk_cell BK127.out 0).trans rfl, (blk_cell BK127.out 1).trans rfl, (blk_cell BK127.out 2).trans rfl⟩ (fun hHeld => ?_)
                                clear hK K
                                refine norm_ (a' := ?_) ?_ ?_
                                rotate_left
                                · show Act.put _ (some 73) _ = _
                                  simp only [Act.put, List.setIfInBounds_toArray, List.set_cons_zero, List.set_cons_succ, i64_w, i32_w]
                                  rfl
                                refine one_ (i := 10) (N := some 76) #[true, true, true, true, true, true, true, true, true, true, true, false, false] rfl rfl (one_of HT_.out (by kernel_rfl)) (by decide) (fun K hK => ?_)
                                refine goes_ Try.func16 (by kernel_rfl) rfl #[.int .i64 t129, .int .i64 (wrap64 (Int.tdiv (wrap64 ((wrap64 (x7_4 * x7_4)) - a0)) (wrap64 (4 * x6_3))))] (by rfl) rfl rfl (by (try simp only [List.map_toArray, List.map_cons, List.map_nil]); first | done | rfl | (simp only [List.length_drop, List.length_take]; rfl)) ?_
                                with_reducible refine (quadratic_gcd.calls k4 t129 (wrap64 (Int.tdiv (wrap64 ((wrap64 (x7_4 * x7_4)) - a0)) (wrap64 (4 * x6_3)))) t130 _ A22.out).mono ?_
                                rintro e w40 ⟨rfl, hb⟩
                                refine ⟨_, rfl, ?_⟩
                                have n0_ := Aside0.mk (Kd.R_below (by (with_reducible repeat (first | apply Kd.R_alloc | apply Kd.R_drewN | apply Kd.R_drew)); exact HO_5.out) hb)
                                have n1_ := Aside0.mk (blk_below (g := gb127) (o := .cells #[.int .i64 x6_3, .int .i64 x7_4, .int .i64 (wrap64 (Int.tdiv (wrap64 ((wrap64 (x7_4 * x7_4)) - a0)) (wrap64 (4 * x6_3))))] 31 (0, 0)) (by (with_reducible repeat (first | refine blk_drewN ?_ _ | refine blk_drew ?_ | refine blk_alloc ?_ _)); exact BK127.out) hb)
                                have n2_ := Aside0.mk (below_step (by repeat (first | (with_reducible first | exact HB.out | apply below_alloc | apply pw_below_drewN | apply below_drew1 | refine below_set ?_ GE127.out) | exact HB.out)) hb)
                                clear HO_5
                                clear BK127
                                clear HB
                                have HO_5 := n0_
                                have BK127 := n1_
                                have HB := n2_
                                clear n0_ n1_ n2_
                                (try clear hb)
                                (try clear hb2)
                                (try clear hk)
                                (try clear hi)
                                refine hK.out _ _ ⟨(blk_cell BK127.out 0).trans rfl, (blk_cell BK127.out 1).trans rfl, (blk_cell BK127.out 2).trans rfl⟩ (fun hHeld => ?_)
                                clear hK K
                                refine norm_ (a' := ?_) ?_ ?_
                                rotate_left
                                · show Act.put _ (some 76) _ = _
                                  simp only [Act.put, List.setIfInBounds_toArray, List.set_cons_zero, List.set_cons_succ, i64_w, i32_w]
                                  rfl
                                refine pure_ (i := 11) (N := some 77) (v := ?_) (a' := ?_) #[true, true, true, true, true, true, true, true, true, true, true, true, false] rfl rfl (any_of HT_.out (by kernel_rfl)) (fun _ _ _ h => h) (Or.inl ⟨by rfl, ?_⟩) ?_ ?_
                                rotate_left
                                · intro w'
                                  go_simp
                                  with_reducible rfl
                                rotate_left
                                · simp only [Act.put, List.setIfInBounds_toArray, List.set_cons_zero, List.set_cons_succ, i64_w, i32_w]
                                  rfl
                                refine pure_ (i := 12) (N := some 78) (v := ?_) (a' := ?_) #[true, true, true, true, true, true, true, true, true, true, true, true, true] rfl rfl (any_of HT_.out (by kernel_rfl)) (fun _ _ _ h => h) (Or.inl ⟨by rfl, ?_⟩) ?_ ?_
                                rotate_left
                                · intro w'
                                  go_simp
                                  with_reducible rfl
                                rotate_left
                                · simp only [Act.put, List.setIfInBounds_toArray, List.set_cons_zero, List.set_cons_succ, i64_w, i32_w]
                                  rfl
                                refine done_ (done_of HT_.out (by kernel_rfl)) ?_
                                try go_wp2
                                go_roundg k4
                                case measure => have := HJ2.out; have := HJ11.out; have := HK3.out; have := HK4.out; omega
                                case rel => exact ⟨(x5_4), (wrap64 (x7_4 + 1)), (by first | rfl | (simp; done) | (simp [*]; done)), H', ⟨by have := HJ2.out; have := HJ11.out; have := HK3.out; have := HK4.out; omega⟩, ⟨by (with_reducible repeat (first | apply Kd.R_alloc | apply Kd.R_drewN | apply Kd.R_drew)); exact Kd.R_mono HO_5.out (fun _ hk => trivial)⟩, ⟨by repeat (first | (with_reducible first | exact HB.out | apply below_alloc | apply pw_below_drewN | apply below_drew1 | refine below_set ?_ GE127.out) | exact HB.out)⟩⟩
                            · replace c20 := Bool.eq_false_iff.mpr c20
                              subst c20
                              have H1 : (quadratic_Forms.l1 k4 a0 x5_4 x6_3 (wrap64 (x7_4 + 1))) = some (r1, r2) := by rw [if_neg (show ¬ (false = true) by decide)] at H; exact H
                              clear H
                              have H := H1
                              clear H1
                              have H' := Aside0.mk H
                              clear H
                              try go_wp2_with (first | ((with_reducible refine gate_dst (N := 8) rfl ?_); refine box_event ?hg (N := 8) ?hd (cs := #[.int .i64 0, .int .i64 0, .int .i64 0]) (t := 31) ?hr ?_; (case hd => rfl); (case hg => rfl); (case hr => first | (go_simp; done) | (go_simp; rfl)); intro gb127 hg w41 hbox hb; have n0_ := Aside0.mk (Kd.R_below (Kd.R_elderB (by (with_reducible repeat (first | apply Kd.R_alloc | apply Kd.R_drewN | apply Kd.R_drew)); exact HO_5.out) gb127 (Nat.le_of_eq hg.symm)) hb); have n1_ := Aside0.mk (below_step (by repeat (first | (with_reducible first | exact HB.out | apply below_alloc | apply pw_below_drewN | apply below_drew1) | exact HB.out)) hb); have n2_ := Aside0.mk (hbox); have n3_ := Aside0.mk ((by rw [hg]; exact (below_size (by repeat (first | (with_reducible first | exact HB.out | apply below_alloc | apply pw_below_drewN | apply below_drew1) | exact HB.out))) : w.heap.size ≤ gb127)); have n4_ := Aside0.mk ((by rw [hg]; exact (below_size (by repeat (first | (with_reducible first | exact HB.out | apply below_alloc | apply pw_below_drewN | apply below_drew1) | exact HB.out))) : w.heap.size ≤ gb127)); clear HO_5; clear HB; have HO_5 := n0_; have HB := n1_; have BK127 := n2_; have GW127 := n3_; have GE127 := n4_; clear n0_ n1_ n2_ n3_ n4_; clear hb hbox hg; have hcz42_0 : w41.cell? ⟨gb127, 0, none⟩ = some (.int .i64 0) := (blk_cell BK127.out 0).trans rfl; have hcz42_1 : w41.cell? ⟨gb127, 1, none⟩ = some (.int .i64 0) := (blk_cell BK127.out 1).trans rfl; have hcz42_2 : w41.cell? ⟨gb127, 2, none⟩ = some (.int .i64 0) := (blk_cell BK127.out 2).trans rfl; have hfz42_0 := blk_frozen BK127.out 0; have hfz42_1 := blk_frozen BK127.out 1; have hfz42_2 := blk_frozen BK127.out 2))
                              have n0_ : Aside0 (Kd.R k31 31 (((w41.setCell ⟨gb127, 0, none⟩ (.int .i64 x6_3)).setCell ⟨gb127, 1, none⟩ (.int .i64 x7_4)).setCell ⟨gb127, 2, none⟩ (.int .i64 (wrap64 (Int.tdiv (wrap64 ((wrap64 (x7_4 * x7_4)) - a0)) (wrap64 (4 * x6_3)))))) w.heap.size (fun k_ => k_ ≠ gb127) u5 x5_4) := ⟨by (with_reducible repeat (first | apply Kd.R_alloc | apply Kd.R_drewN | apply Kd.R_drew)); exact Kd.R_mono (Kd.R_far (p := ⟨gb127, 2, none⟩) (Kd.R_far (p := ⟨gb127, 1, none⟩) (Kd.R_far (p := ⟨gb127, 0, none⟩) (Kd.R_mono HO_5.out (fun k_ hk => (⟨hk, hk.2⟩ : _ ∧ k_ ≠ gb127))) (fun _ hk => hk.2) (.int .i64 x6_3)) (fun _ hk => hk.2) (.int .i64 x7_4)) (fun _ hk => hk.2) (.int .i64 (wrap64 (Int.tdiv (wrap64 ((wrap64 (x7_4 * x7_4)) - a0)) (wrap64 (4 * x6_3)))))) (fun _ hk => hk.1.2)⟩
                              have n1_ : Aside0 ((((w41.setCell ⟨gb127, 0, none⟩ (.int .i64 x6_3)).setCell ⟨gb127, 1, none⟩ (.int .i64 x7_4)).setCell ⟨gb127, 2, none⟩ (.int .i64 (wrap64 (Int.tdiv (wrap64 ((wrap64 (x7_4 * x7_4)) - a0)) (wrap64 (4 * x6_3)))))).heap[gb127]? = some (.cells #[.int .i64 x6_3, .int .i64 x7_4, .int .i64 (wrap64 (Int.tdiv (wrap64 ((wrap64 (x7_4 * x7_4)) - a0)) (wrap64 (4 * x6_3))))] 31 (0, 0))) := ⟨by (with_reducible repeat (first | refine blk_drewN ?_ _ | refine blk_drew ?_ | refine blk_alloc ?_ _)); refine blk_put (cs := #[.int .i64 x6_3, .int .i64 x7_4, .int .i64 0]) ?_ 2 _ rfl; (with_reducible repeat (first | refine blk_drewN ?_ _ | refine blk_drew ?_ | refine blk_alloc ?_ _)); refine blk_put (cs := #[.int .i64 x6_3, .int .i64 0, .int .i64 0]) ?_ 1 _ rfl; (with_reducible repeat (first | refine blk_drewN ?_ _ | refine blk_drew ?_ | refine blk_alloc ?_ _)); refine blk_put (cs := #[.int .i64 0, .int .i64 0, .int .i64 0]) ?_ 0 _ rfl; (with_reducible repeat (first | refine blk_drewN ?_ _ | refine blk_drew ?_ | refine blk_alloc ?_ _)); exact BK127.out⟩
                              have n2_ : Aside0 (Below w.heap.size w (((w41.setCell ⟨gb127, 0, none⟩ (.int .i64 x6_3)).setCell ⟨gb127, 1, none⟩ (.int .i64 x7_4)).setCell ⟨gb127, 2, none⟩ (.int .i64 (wrap64 (Int.tdiv (wrap64 ((wrap64 (x7_4 * x7_4)) - a0)) (wrap64 (4 * x6_3))))))) := ⟨by repeat (first | (with_reducible first | exact HB.out | apply below_alloc | apply pw_below_drewN | apply below_drew1 | refine below_set ?_ GE127.out) | exact HB.out)⟩
                              (try clear HO_5)
                              (try clear BK127)
                              (try clear HB)
                              generalize (((w41.setCell ⟨gb127, 0, none⟩ (.int .i64 x6_3)).setCell ⟨gb127, 1, none⟩ (.int .i64 x7_4)).setCell ⟨gb127, 2, none⟩ (.int .i64 (wrap64 (Int.tdiv (wrap64 ((wrap64 (x7_4 * x7_4)) - a0)) (wrap64 (4 * x6_3)))))) = w43 at n0_ n1_ n2_ ⊢
                              have HO_5 := n0_
                              have BK127 := n1_
                              have HB := n2_
                              clear n0_ n1_ n2_
                              have n0_ := Aside0.mk (Kd.R_drew HO_5.out)
                              have n1_ := Aside0.mk (blk_drew BK127.out)
                              have n2_ := Aside0.mk (below_drew1 HB.out)
                              clear HO_5
                              clear BK127
                              clear HB
                              have HO_5 := n0_
                              have BK127 := n1_
                              have HB := n2_
                              clear n0_ n1_ n2_
                              refine start_ (n := 13) (S := fun w' => w'.cell? ⟨gb127, 0, none⟩ = some (.int .i64 x6_3) ∧ w'.cell? ⟨gb127, 1, none⟩ = some (.int .i64 x7_4) ∧ w'.cell? ⟨gb127, 2, none⟩ = some (.int .i64 (wrap64 (Int.tdiv (wrap64 ((wrap64 (x7_4 * x7_4)) - a0)) (wrap64 (4 * x6_3)))))) (ds := []) #[false, false, false, false, false, false, false, false, false, false, false, false, false] (by kernel_rfl) rfl rfl ⟨(blk_cell BK127.out 0).trans rfl, (blk_cell BK127.out 1).trans rfl, (blk_cell BK127.out 2).trans rfl⟩ (fun hHeld => ?_); refine with_tabW quadratic_Forms.tab15 quadratic_Forms.bits15 (fun HT_ HW_ => ?_)
                              generalize w43.drew = w44 at HO_5 BK127 HB hHeld ⊢
                              refine take_ (i := 0) (N := some 66) (v := ?_) (a' := ?_) #[true, false, false, false, false, false, false, false, false, false, false, false, false] rfl rfl (take_ofW HT_.out HW_.out (by kernel_rfl)) (fun _ _ _ h => h) (Or.inl ⟨by rfl, ?_⟩) hHeld ?_ ?_
                              rotate_left
                              · rintro w' ⟨s0, s1, s2⟩
                                go_simp
                                with_reducible rfl
                              rotate_left
                              · simp only [Act.put, List.setIfInBounds_toArray, List.set_cons_zero, List.set_cons_succ, i64_w, i32_w]
                                rfl
                              refine one_ (i := 1) (N := some 67) #[true, true, false, false, false, false, false, false, false, false, false, false, false] rfl rfl (one_of HT_.out (by kernel_rfl)) (by decide) (fun K hK => ?_)
                              refine goes_ Try.func15 (by kernel_rfl) rfl #[.agg #[.int .i64 x6_3, .int .i64 x7_4, .int .i64 (wrap64 (Int.tdiv (wrap64 ((wrap64 (x7_4 * x7_4)) - a0)) (wrap64 (4 * x6_3))))]] (by rfl) rfl rfl (by (try simp only [List.map_toArray, List.map_cons, List.map_nil]); first | done | rfl | (simp only [List.length_drop, List.length_take]; rfl)) ?_
                              with_reducible refine (quadratic_reduced.calls x6_3 x7_4 (wrap64 (Int.tdiv (wrap64 ((wrap64 (x7_4 * x7_4)) - a0)) (wrap64 (4 * x6_3)))) false _ A19.out).mono ?_
                              rintro e w45 ⟨rfl, hb⟩
                              refine ⟨_, rfl, ?_⟩
                              have n0_ := Aside0.mk (Kd.R_below (by (with_reducible repeat (first | apply Kd.R_alloc | apply Kd.R_drewN | apply Kd.R_drew)); exact HO_5.out) hb)
                              have n1_ := Aside0.mk (blk_below (g := gb127) (o := .cells #[.int .i64 x6_3, .int .i64 x7_4, .int .i64 (wrap64 (Int.tdiv (wrap64 ((wrap64 (x7_4 * x7_4)) - a0)) (wrap64 (4 * x6_3))))] 31 (0, 0)) (by (with_reducible repeat (first | refine blk_drewN ?_ _ | refine blk_drew ?_ | refine blk_alloc ?_ _)); exact BK127.out) hb)
                              have n2_ := Aside0.mk (below_step (by repeat (first | (with_reducible first | exact HB.out | apply below_alloc | apply pw_below_drewN | apply below_drew1 | refine below_set ?_ GE127.out) | exact HB.out)) hb)
                              clear HO_5
                              clear BK127
                              clear HB
                              have HO_5 := n0_
                              have BK127 := n1_
                              have HB := n2_
                              clear n0_ n1_ n2_
                              (try clear hb)
                              (try clear hb2)
                              (try clear hk)
                              (try clear hi)
                              refine hK.out _ _ ⟨(blk_cell BK127.out 0).trans rfl, (blk_cell BK127.out 1).trans rfl, (blk_cell BK127.out 2).trans rfl⟩ (fun hHeld => ?_)
                              clear hK K
                              refine norm_ (a' := ?_) ?_ ?_
                              rotate_left
                              · show Act.put _ (some 67) _ = _
                                simp only [Act.put, List.setIfInBounds_toArray, List.set_cons_zero, List.set_cons_succ, i64_w, i32_w]
                                rfl
                              refine pure_ (i := 2) (N := some 68) (v := ?_) (a' := ?_) #[true, true, true, false, false, false, false, false, false, false, false, false, false] rfl rfl (any_of HT_.out (by kernel_rfl)) (fun _ _ _ h => h) (Or.inl ⟨by rfl, ?_⟩) ?_ ?_
                              rotate_left
                              · intro w'
                                go_simp
                                with_reducible rfl
                              rotate_left
                              · simp only [Act.put, List.setIfInBounds_toArray, List.set_cons_zero, List.set_cons_succ, i64_w, i32_w]
                                rfl
                              refine pure_ (i := 3) (N := some 69) (v := undef) (a' := ?_) #[true, true, true, true, false, false, false, false, false, false, false, false, false] rfl rfl (any_of HT_.out (by kernel_rfl)) (fun _ _ _ h => h) (Or.inr ⟨by rfl, rfl⟩) ?_ ?_
                              rotate_left
                              · simp only [Act.put, List.setIfInBounds_toArray, List.set_cons_zero, List.set_cons_succ, i64_w, i32_w]
                                rfl
                              refine pure_ (i := 4) (N := some 70) (v := undef) (a' := ?_) #[true, true, true, true, true, false, false, false, false, false, false, false, false] rfl rfl (any_of HT_.out (by kernel_rfl)) (fun _ _ _ h => h) (Or.inr ⟨by rfl, rfl⟩) ?_ ?_
                              rotate_left
                              · simp only [Act.put, List.setIfInBounds_toArray, List.set_cons_zero, List.set_cons_succ, i64_w, i32_w]
                                rfl
                              refine pure_ (i := 5) (N := some 71) (v := undef) (a' := ?_) #[true, true, true, true, true, true, false, false, false, false, false, false, false] rfl rfl (any_of HT_.out (by kernel_rfl)) (fun _ _ _ h => h) (Or.inr ⟨by rfl, rfl⟩) ?_ ?_
                              rotate_left
                              · simp only [Act.put, List.setIfInBounds_toArray, List.set_cons_zero, List.set_cons_succ, i64_w, i32_w]
                                rfl
                              refine pure_ (i := 6) (N := some 72) (v := undef) (a' := ?_) #[true, true, true, true, true, true, true, false, false, false, false, false, false] rfl rfl (any_of HT_.out (by kernel_rfl)) (fun _ _ _ h => h) (Or.inr ⟨by rfl, rfl⟩) ?_ ?_
                              rotate_left
                              · simp only [Act.put, List.setIfInBounds_toArray, List.set_cons_zero, List.set_cons_succ, i64_w, i32_w]
                                rfl
                              refine pure_ (i := 7) (N := some 73) (v := undef) (a' := ?_) #[true, true, true, true, true, true, true, true, false, false, false, false, false] rfl rfl (any_of HT_.out (by kernel_rfl)) (fun _ _ _ h => h) (Or.inr ⟨by rfl, rfl⟩) ?_ ?_
                              rotate_left
                              · simp only [Act.put, List.setIfInBounds_toArray, List.set_cons_zero, List.set_cons_succ, i64_w, i32_w]
                                rfl
                              refine pure_ (i := 8) (N := some 74) (v := undef) (a' := ?_) #[true, true, true, true, true, true, true, true, true, false, false, false, false] rfl rfl (any_of HT_.out (by kernel_rfl)) (fun _ _ _ h => h) (Or.inr ⟨by rfl, rfl⟩) ?_ ?_
                              rotate_left
                              · simp only [Act.put, List.setIfInBounds_toArray, List.set_cons_zero, List.set_cons_succ, i64_w, i32_w]
                                rfl
                              refine pure_ (i := 9) (N := some 75) (v := undef) (a' := ?_) #[true, true, true, true, true, true, true, true, true, true, false, false, false] rfl rfl (any_of HT_.out (by kernel_rfl)) (fun _ _ _ h => h) (Or.inr ⟨by rfl, rfl⟩) ?_ ?_
                              rotate_left
                              · simp only [Act.put, List.setIfInBounds_toArray, List.set_cons_zero, List.set_cons_succ, i64_w, i32_w]
                                rfl
                              refine pure_ (i := 10) (N := some 76) (v := undef) (a' := ?_) #[true, true, true, true, true, true, true, true, true, true, true, false, false] rfl rfl (any_of HT_.out (by kernel_rfl)) (fun _ _ _ h => h) (Or.inr ⟨by rfl, rfl⟩) ?_ ?_
                              rotate_left
                              · simp only [Act.put, List.setIfInBounds_toArray, List.set_cons_zero, List.set_cons_succ, i64_w, i32_w]
                                rfl
                              refine pure_ (i := 11) (N := some 77) (v := undef) (a' := ?_) #[true, true, true, true, true, true, true, true, true, true, true, true, false] rfl rfl (any_of HT_.out (by kernel_rfl)) (fun _ _ _ h => h) (Or.inr ⟨by rfl, rfl⟩) ?_ ?_
                              rotate_left
                              · simp only [Act.put, List.setIfInBounds_toArray, List.set_cons_zero, List.set_cons_succ, i64_w, i32_w]
                                rfl
                              refine pure_ (i := 12) (N := some 78) (v := ?_) (a' := ?_) #[true, true, true, true, true, true, true, true, true, true, true, true, true] rfl rfl (any_of HT_.out (by kernel_rfl)) (fun _ _ _ h => h) (Or.inl ⟨by rfl, ?_⟩) ?_ ?_
                              rotate_left
                              · intro w'
                                go_simp
                                with_reducible rfl
                              rotate_left
                              · simp only [Act.put, List.setIfInBounds_toArray, List.set_cons_zero, List.set_cons_succ, i64_w, i32_w]
                                rfl
                              refine done_ (done_of HT_.out (by kernel_rfl)) ?_
                              try go_wp2
                              go_roundg k4
                              case measure => have := HJ2.out; have := HJ11.out; have := HK3.out; have := HK4.out; omega
                              case rel => exact ⟨(x5_4), (wrap64 (x7_4 + 1)), (by first | rfl | (simp; done) | (simp [*]; done)), H', ⟨by have := HJ2.out; have := HJ11.out; have := HK3.out; have := HK4.out; omega⟩, ⟨by (with_reducible repeat (first | apply Kd.R_alloc | apply Kd.R_drewN | apply Kd.R_drew)); exact Kd.R_mono HO_5.out (fun _ hk => trivial)⟩, ⟨by repeat (first | (with_reducible first | exact HB.out | apply below_alloc | apply pw_below_drewN | apply below_drew1 | refine below_set ?_ GE127.out) | exact HB.out)⟩⟩
                          · rw [if_neg c18] at H
                            have c18b0 : ((Int.tmod (wrap64 ((wrap64 (x7_4 * x7_4)) - a0)) (wrap64 (4 * x6_3))) == 0) = false := beq_eq_false_iff_ne.mpr c18
                            have c18b1 : ((Int.tmod (wrap64 ((wrap64 (x7_4 * x7_4)) - a0)) (wrap64 (4 * x6_3))) != 0) = true := bne_iff_ne.mpr c18
                            have H' := Aside0.mk H
                            clear H
                            go_wp2
                            go_roundg k4
                            case measure => have := HJ2.out; have := HJ11.out; have := HK3.out; have := HK4.out; omega
                            case rel => exact ⟨(x5_4), (wrap64 (x7_4 + 1)), (by first | rfl | (simp; done) | (simp [*]; done)), H', ⟨by have := HJ2.out; have := HJ11.out; have := HK3.out; have := HK4.out; omega⟩, ⟨by (with_reducible repeat (first | apply Kd.R_alloc | apply Kd.R_drewN | apply Kd.R_drew)); exact HO_5.out⟩, ⟨by repeat (first | (with_reducible first | exact HB.out | apply below_alloc | apply pw_below_drewN | apply below_drew1) | exact HB.out)⟩⟩
                      · rw [if_neg c16] at H
                        have c16b0 : decide (x7_4 ≤ x6_3) = false := decide_eq_false c16
                        clear c16
                        have H' := Aside0.mk H
                        clear H
                        go_wp2
                        go_roundg k4
                        case measure => have := HJ2.out; have := HJ11.out; have := HK3.out; have := HK4.out; omega
                        case rel => exact ⟨(x5_4), (wrap64 (x6_3 + 1)), (by first | rfl | (simp; done) | (simp [*]; done)), H', ⟨by have := HJ2.out; have := HJ11.out; have := HK3.out; have := HK4.out; omega⟩, ⟨by (with_reducible repeat (first | apply Kd.R_alloc | apply Kd.R_drewN | apply Kd.R_drew)); exact HO_5.out⟩, ⟨by repeat (first | (with_reducible first | exact HB.out | apply below_alloc | apply pw_below_drewN | apply below_drew1) | exact HB.out)⟩⟩
                · rw [if_neg c15] at H
                  have c15b0 : decide ((wrap64 ((wrap64 (3 * x6_3)) * x6_3)) ≤ (wrap64 (-a0))) = false := decide_eq_false c15
                  clear c15
                  replace H := Option.bind_eq_some_iff.mp H
                  obtain ⟨t126, A460, H⟩ := H
                  replace H : (some (t126, 0)) = some (r1, r2) := H
                  have A46 := Aside0.mk A460
                  clear A460
                  simp only [Option.some.injEq, Prod.mk.injEq] at H
                  obtain ⟨rfl, rfl⟩ := H
                  obtain ⟨Ao47, co47, eo47⟩ := Kd.R_slice HO_5.out
                  subst eo47
                  go_wp2_with (first | ((with_reducible refine gate_callee (f := 17) rfl ?_); refine goesL_ (some 84) rfl rfl Try.func17 (by kernel_rfl) rfl #[.slice Ao47 x5_3.length co47, .func (.func 18) #[] #[]] rfl (by (try simp only [List.map_toArray, List.map_cons, List.map_nil]); first | done | rfl | (simp only [List.length_drop, List.length_take]; rfl)) ?_; (with_reducible refine (api_Form.calls (fun k_ => some k_ = (.slice Ao47 x5_3.length co47 : Value).ownBlock) (.slice Ao47 x5_3.length co47) x5_3 t126 w _ ?side1 ?side2 A46.out).mono ?_); (case side1 => repeat (first | (with_reducible first | exact HB.out | apply below_alloc | apply pw_below_drewN | apply below_drew1) | exact HB.out)); (case side2 => exact Kd.R_tight rfl HO_5.out); rintro e w48 ⟨rfl, hy0, hb, hkp⟩; refine ⟨_, rfl, ?_⟩; have n0_ := Aside0.mk (Kd.R_reok rfl hy0 (fun k_ e_ => HO_5.out.1 k_ e_)); have n1_ := Aside0.mk (hb); clear HO_5; clear HB; have HO_5 := n0_; have HB := n1_; clear n0_ n1_; (try clear hb); (try clear hkp); (try clear hy0)))
                  go_ret2
                  exact ⟨_, by first | rfl | (simp [errW_none, errW_some] <;> rfl) | (simp [*, errW_none, errW_some] <;> rfl), by (with_reducible repeat (first | apply Kd.R_alloc | apply Kd.R_drewN | apply Kd.R_drew)); exact HO_5.out, by repeat (first | (with_reducible first | exact HB.out | apply below_alloc | apply pw_below_drewN | apply below_drew1) | exact HB.out)⟩
          · rw [if_neg c14] at H
            have c14b0 : (x4_11 == 0) = false := beq_eq_false_iff_ne.mpr c14
            have c14b1 : (x4_11 != 0) = true := bne_iff_ne.mpr c14
            simp only [Option.some.injEq, Prod.mk.injEq] at H
            obtain ⟨rfl, rfl⟩ := H
            go_wp2
            go_ret2
            exact ⟨_, by first | rfl | (simp [errW_none, errW_some] <;> rfl) | (simp [*, errW_none, errW_some] <;> rfl), by first | exact Kd.R_nil _ _ _ _ _ | exact Kd.N_nil _ _ _ _ _ | exact Kd.V_nil _ _ _ _ _ | exact Kd.Q_nil _ _ _ _ _ | exact Kd.S_nil _ _ _ _ _, by repeat (first | (with_reducible first | exact HB.out | apply below_alloc | apply pw_below_drewN | apply below_drew1) | exact HB.out)⟩

end Go.Proofs.Ytppdaagiofcmkaa.Q
