-- WRITTEN BY print2.py, this session's driver of the kit's printer, with hand-proved contracts among it.
import Derived.Test.YtppdaagiofcmkaaQx0
namespace Go.Proofs.Ytppdaagiofcmkaa.Q
open Go.RowKit Go.Proofs.YtppdaagiofcmkaaW.PrintWords Go.Proofs.YtppdaagiofcmkaaW.PrintLast Go.Proofs.YtppdaagiofcmkaaW.PrintMore
attribute [local go_sem] max2_int min2_int max_two min_two max_three min_three max_four min_four   -- for this text's walks alone
set_option linter.unusedVariables false
set_option linter.unusedSimpArgs false

/-! ### quadratic_reduced: function 15 -/
def quadratic_reduced.f (a0_0 : Int) (a0_1 : Int) (a0_2 : Int) : Option (Bool) := if (mx a0_1 (wrap64 (-a0_1))) ≤ a0_0 then (if a0_0 ≤ a0_2 then (if a0_1 ≥ 0 then (some true) else (if (mx a0_1 (wrap64 (-a0_1))) < a0_0 then (some (decide (a0_0 < a0_2))) else (some false))) else (some false)) else (some false)
set_option maxHeartbeats 8000000 in
set_option maxRecDepth 100000 in
theorem quadratic_reduced.calls (a0_0 : Int) (a0_1 : Int) (a0_2 : Int) (r : Bool) (w : World) (h : quadratic_reduced.f a0_0 a0_1 a0_2 = some r) :
    Calls Try.prog 15 #[.agg #[.int .i64 a0_0, .int .i64 a0_1, .int .i64 a0_2]] w fun e w' => e = .returned (.bool r) ∧ Below w.heap.size w w' := by
  have hu31 := Try.underlying31
  have HB := Aside0.mk (Below.refl w.heap.size w)
  have H : (if (mx a0_1 (wrap64 (-a0_1))) ≤ a0_0 then (if a0_0 ≤ a0_2 then (if a0_1 ≥ 0 then (some true) else (if (mx a0_1 (wrap64 (-a0_1))) < a0_0 then (some (decide (a0_0 < a0_2))) else (some false))) else (some false)) else (some false)) = some r := h
  clear h
  obtain ⟨ji2, hji2⟩ : ∃ j_ : Int, (mx a0_1 (wrap64 (-a0_1))) = j_ := ⟨_, rfl⟩
  replace H : (if (ji2) ≤ a0_0 then (if a0_0 ≤ a0_2 then (if a0_1 ≥ 0 then (some true) else (if (ji2) < a0_0 then (some (decide (a0_0 < a0_2))) else (some false))) else (some false)) else (some false)) = some r := by first | (rw [hji2] at H; exact H) | (simp only [hji2] at H ⊢; exact H)
  have hji2_ : (if a0_1 < (wrap64 (-a0_1)) then (wrap64 (-a0_1)) else a0_1) = ji2 := hji2
  by_cases c3 : (ji2) ≤ a0_0
  · rw [if_pos c3] at H
    have c3b0 : decide ((ji2) ≤ a0_0) = true := decide_eq_true c3
    clear c3
    by_cases c4 : a0_0 ≤ a0_2
    · rw [if_pos c4] at H
      have c4b0 : decide (a0_0 ≤ a0_2) = true := decide_eq_true c4
      clear c4
      by_cases c5 : a0_1 ≥ 0
      · rw [if_pos c5] at H
        have c5b0 : decide (0 ≤ a0_1) = true := decide_eq_true c5
        clear c5
        obtain rfl := Option.some.inj H
        go_enter Try.func15, Try.ntmps15
        go_wp2_with (first | ((with_reducible refine gate_dst (N := 1) rfl ?_); refine box_event ?hg (N := 1) ?hd (cs := #[.int .i64 a0_0, .int .i64 a0_1, .int .i64 a0_2]) (t := 31) ?hr ?_; (case hd => rfl); (case hg => rfl); (case hr => first | (go_simp; done) | (go_simp; rfl)); intro gb118 hg w6 hbox hb; have n0_ := Aside0.mk (below_step (by repeat (first | (with_reducible first | exact HB.out | apply below_alloc | apply pw_below_drewN | apply below_drew1) | exact HB.out)) hb); have n1_ := Aside0.mk (hbox); have n2_ := Aside0.mk ((by rw [hg]; exact (below_size (by repeat (first | (with_reducible first | exact HB.out | apply below_alloc | apply pw_below_drewN | apply below_drew1) | exact HB.out))) : w.heap.size ≤ gb118)); have n3_ := Aside0.mk ((by rw [hg]; exact (below_size (by repeat (first | (with_reducible first | exact HB.out | apply below_alloc | apply pw_below_drewN | apply below_drew1) | exact HB.out))) : w.heap.size ≤ gb118)); clear HB; have HB := n0_; have BK118 := n1_; have GW118 := n2_; have GE118 := n3_; clear n0_ n1_ n2_ n3_; clear hb hbox hg; have hcz7_0 : w6.cell? ⟨gb118, 0, none⟩ = some (.int .i64 a0_0) := (blk_cell BK118.out 0).trans rfl; have hcz7_1 : w6.cell? ⟨gb118, 1, none⟩ = some (.int .i64 a0_1) := (blk_cell BK118.out 1).trans rfl; have hcz7_2 : w6.cell? ⟨gb118, 2, none⟩ = some (.int .i64 a0_2) := (blk_cell BK118.out 2).trans rfl; have hfz7_0 := blk_frozen BK118.out 0; have hfz7_1 := blk_frozen BK118.out 1; have hfz7_2 := blk_frozen BK118.out 2))
        go_ret
        exact ⟨by first | rfl | (simp [errW_none, errW_some] <;> rfl) | (simp only [← hji2]; first | rfl | (simp [errW_none, errW_some] <;> rfl)) | (simp [*, errW_none, errW_some] <;> rfl), by repeat (first | (with_reducible first | exact HB.out | apply below_alloc | apply pw_below_drewN | apply below_drew1 | refine below_set ?_ GE118.out) | exact HB.out)⟩
      · rw [if_neg c5] at H
        have c5b0 : decide (0 ≤ a0_1) = false := decide_eq_false c5
        clear c5
        by_cases c8 : (ji2) < a0_0
        · rw [if_pos c8] at H
          have c8b0 : decide ((ji2) < a0_0) = true := decide_eq_true c8
          clear c8
          obtain rfl := Option.some.inj H
          go_enter Try.func15, Try.ntmps15
          go_wp2_with (first | ((with_reducible refine gate_dst (N := 1) rfl ?_); refine box_event ?hg (N := 1) ?hd (cs := #[.int .i64 a0_0, .int .i64 a0_1, .int .i64 a0_2]) (t := 31) ?hr ?_; (case hd => rfl); (case hg => rfl); (case hr => first | (go_simp; done) | (go_simp; rfl)); intro gb118 hg w9 hbox hb; have n0_ := Aside0.mk (below_step (by repeat (first | (with_reducible first | exact HB.out | apply below_alloc | apply pw_below_drewN | apply below_drew1) | exact HB.out)) hb); have n1_ := Aside0.mk (hbox); have n2_ := Aside0.mk ((by rw [hg]; exact (below_size (by repeat (first | (with_reducible first | exact HB.out | apply below_alloc | apply pw_below_drewN | apply below_drew1) | exact HB.out))) : w.heap.size ≤ gb118)); have n3_ := Aside0.mk ((by rw [hg]; exact (below_size (by repeat (first | (with_reducible first | exact HB.out | apply below_alloc | apply pw_below_drewN | apply below_drew1) | exact HB.out))) : w.heap.size ≤ gb118)); clear HB; have HB := n0_; have BK118 := n1_; have GW118 := n2_; have GE118 := n3_; clear n0_ n1_ n2_ n3_; clear hb hbox hg; have hcz10_0 : w9.cell? ⟨gb118, 0, none⟩ = some (.int .i64 a0_0) := (blk_cell BK118.out 0).trans rfl; have hcz10_1 : w9.cell? ⟨gb118, 1, none⟩ = some (.int .i64 a0_1) := (blk_cell BK118.out 1).trans rfl; have hcz10_2 : w9.cell? ⟨gb118, 2, none⟩ = some (.int .i64 a0_2) := (blk_cell BK118.out 2).trans rfl; have hfz10_0 := blk_frozen BK118.out 0; have hfz10_1 := blk_frozen BK118.out 1; have hfz10_2 := blk_frozen BK118.out 2))
          go_ret
          exact ⟨by first | rfl | (simp [errW_none, errW_some] <;> rfl) | (simp only [← hji2]; first | rfl | (simp [errW_none, errW_some] <;> rfl)) | (simp [*, errW_none, errW_some] <;> rfl), by repeat (first | (with_reducible first | exact HB.out | apply below_alloc | apply pw_below_drewN | apply below_drew1 | refine below_set ?_ GE118.out) | exact HB.out)⟩
        · rw [if_neg c8] at H
          have c8b0 : decide ((ji2) < a0_0) = false := decide_eq_false c8
          clear c8
          obtain rfl := Option.some.inj H
          go_enter Try.func15, Try.ntmps15
          go_wp2_with (first | ((with_reducible refine gate_dst (N := 1) rfl ?_); refine box_event ?hg (N := 1) ?hd (cs := #[.int .i64 a0_0, .int .i64 a0_1, .int .i64 a0_2]) (t := 31) ?hr ?_; (case hd => rfl); (case hg => rfl); (case hr => first | (go_simp; done) | (go_simp; rfl)); intro gb118 hg w11 hbox hb; have n0_ := Aside0.mk (below_step (by repeat (first | (with_reducible first | exact HB.out | apply below_alloc | apply pw_below_drewN | apply below_drew1) | exact HB.out)) hb); have n1_ := Aside0.mk (hbox); have n2_ := Aside0.mk ((by rw [hg]; exact (below_size (by repeat (first | (with_reducible first | exact HB.out | apply below_alloc | apply pw_below_drewN | apply below_drew1) | exact HB.out))) : w.heap.size ≤ gb118)); have n3_ := Aside0.mk ((by rw [hg]; exact (below_size (by repeat (first | (with_reducible first | exact HB.out | apply below_alloc | apply pw_below_drewN | apply below_drew1) | exact HB.out))) : w.heap.size ≤ gb118)); clear HB; have HB := n0_; have BK118 := n1_; have GW118 := n2_; have GE118 := n3_; clear n0_ n1_ n2_ n3_; clear hb hbox hg; have hcz12_0 : w11.cell? ⟨gb118, 0, none⟩ = some (.int .i64 a0_0) := (blk_cell BK118.out 0).trans rfl; have hcz12_1 : w11.cell? ⟨gb118, 1, none⟩ = some (.int .i64 a0_1) := (blk_cell BK118.out 1).trans rfl; have hcz12_2 : w11.cell? ⟨gb118, 2, none⟩ = some (.int .i64 a0_2) := (blk_cell BK118.out 2).trans rfl; have hfz12_0 := blk_frozen BK118.out 0; have hfz12_1 := blk_frozen BK118.out 1; have hfz12_2 := blk_frozen BK118.out 2))
          go_ret
          exact ⟨by first | rfl | (simp [errW_none, errW_some] <;> rfl) | (simp only [← hji2]; first | rfl | (simp [errW_none, errW_some] <;> rfl)) | (simp [*, errW_none, errW_some] <;> rfl), by repeat (first | (with_reducible first | exact HB.out | apply below_alloc | apply pw_below_drewN | apply below_drew1 | refine below_set ?_ GE118.out) | exact HB.out)⟩
    · rw [if_neg c4] at H
      have c4b0 : decide (a0_0 ≤ a0_2) = false := decide_eq_false c4
      clear c4
      obtain rfl := Option.some.inj H
      go_enter Try.func15, Try.ntmps15
      go_wp2_with (first | ((with_reducible refine gate_dst (N := 1) rfl ?_); refine box_event ?hg (N := 1) ?hd (cs := #[.int .i64 a0_0, .int .i64 a0_1, .int .i64 a0_2]) (t := 31) ?hr ?_; (case hd => rfl); (case hg => rfl); (case hr => first | (go_simp; done) | (go_simp; rfl)); intro gb118 hg w13 hbox hb; have n0_ := Aside0.mk (below_step (by repeat (first | (with_reducible first | exact HB.out | apply below_alloc | apply pw_below_drewN | apply below_drew1) | exact HB.out)) hb); have n1_ := Aside0.mk (hbox); have n2_ := Aside0.mk ((by rw [hg]; exact (below_size (by repeat (first | (with_reducible first | exact HB.out | apply below_alloc | apply pw_below_drewN | apply below_drew1) | exact HB.out))) : w.heap.size ≤ gb118)); have n3_ := Aside0.mk ((by rw [hg]; exact (below_size (by repeat (first | (with_reducible first | exact HB.out | apply below_alloc | apply pw_below_drewN | apply below_drew1) | exact HB.out))) : w.heap.size ≤ gb118)); clear HB; have HB := n0_; have BK118 := n1_; have GW118 := n2_; have GE118 := n3_; clear n0_ n1_ n2_ n3_; clear hb hbox hg; have hcz14_0 : w13.cell? ⟨gb118, 0, none⟩ = some (.int .i64 a0_0) := (blk_cell BK118.out 0).trans rfl; have hcz14_1 : w13.cell? ⟨gb118, 1, none⟩ = some (.int .i64 a0_1) := (blk_cell BK118.out 1).trans rfl; have hcz14_2 : w13.cell? ⟨gb118, 2, none⟩ = some (.int .i64 a0_2) := (blk_cell BK118.out 2).trans rfl; have hfz14_0 := blk_frozen BK118.out 0; have hfz14_1 := blk_frozen BK118.out 1; have hfz14_2 := blk_frozen BK118.out 2))
      go_ret
      exact ⟨by first | rfl | (simp [errW_none, errW_some] <;> rfl) | (simp only [← hji2]; first | rfl | (simp [errW_none, errW_some] <;> rfl)) | (simp [*, errW_none, errW_some] <;> rfl), by repeat (first | (with_reducible first | exact HB.out | apply below_alloc | apply pw_below_drewN | apply below_drew1 | refine below_set ?_ GE118.out) | exact HB.out)⟩
  · rw [if_neg c3] at H
    have c3b0 : decide ((ji2) ≤ a0_0) = false := decide_eq_false c3
    clear c3
    obtain rfl := Option.some.inj H
    go_enter Try.func15, Try.ntmps15
    go_wp2_with (first | ((with_reducible refine gate_dst (N := 1) rfl ?_); refine box_event ?hg (N := 1) ?hd (cs := #[.int .i64 a0_0, .int .i64 a0_1, .int .i64 a0_2]) (t := 31) ?hr ?_; (case hd => rfl); (case hg => rfl); (case hr => first | (go_simp; done) | (go_simp; rfl)); intro gb118 hg w15 hbox hb; have n0_ := Aside0.mk (below_step (by repeat (first | (with_reducible first | exact HB.out | apply below_alloc | apply pw_below_drewN | apply below_drew1) | exact HB.out)) hb); have n1_ := Aside0.mk (hbox); have n2_ := Aside0.mk ((by rw [hg]; exact (below_size (by repeat (first | (with_reducible first | exact HB.out | apply below_alloc | apply pw_below_drewN | apply below_drew1) | exact HB.out))) : w.heap.size ≤ gb118)); have n3_ := Aside0.mk ((by rw [hg]; exact (below_size (by repeat (first | (with_reducible first | exact HB.out | apply below_alloc | apply pw_below_drewN | apply below_drew1) | exact HB.out))) : w.heap.size ≤ gb118)); clear HB; have HB := n0_; have BK118 := n1_; have GW118 := n2_; have GE118 := n3_; clear n0_ n1_ n2_ n3_; clear hb hbox hg; have hcz16_0 : w15.cell? ⟨gb118, 0, none⟩ = some (.int .i64 a0_0) := (blk_cell BK118.out 0).trans rfl; have hcz16_1 : w15.cell? ⟨gb118, 1, none⟩ = some (.int .i64 a0_1) := (blk_cell BK118.out 1).trans rfl; have hcz16_2 : w15.cell? ⟨gb118, 2, none⟩ = some (.int .i64 a0_2) := (blk_cell BK118.out 2).trans rfl; have hfz16_0 := blk_frozen BK118.out 0; have hfz16_1 := blk_frozen BK118.out 1; have hfz16_2 := blk_frozen BK118.out 2))
    go_ret
    exact ⟨by first | rfl | (simp [errW_none, errW_some] <;> rfl) | (simp only [← hji2]; first | rfl | (simp [errW_none, errW_some] <;> rfl)) | (simp [*, errW_none, errW_some] <;> rfl), by repeat (first | (with_reducible first | exact HB.out | apply below_alloc | apply pw_below_drewN | apply below_drew1 | refine below_set ?_ GE118.out) | exact HB.out)⟩

/-! ### quadratic_gcd: function 16 -/
def quadratic_gcd.l0 : Nat → Int → Int → Option (Int)
  | 0, _, _ => none
  | k + 1, x0, x1 => if x1 = 0 then (some (mx x0 (wrap64 (-x0)))) else (quadratic_gcd.l0 k x1 (Int.tmod x0 x1))
def quadratic_gcd.f (k : Nat) (a0 : Int) (a1 : Int) : Option (Int) := quadratic_gcd.l0 k a0 a1
theorem quadratic_gcd.mono_l : ∀ k, (∀ y0 y1, LeO (quadratic_gcd.l0 k y0 y1) (quadratic_gcd.l0 (k + 1) y0 y1))
  | 0 => fun _ _ r h => by simp [quadratic_gcd.l0] at h
  | k + 1 => by
    have ih0 := quadratic_gcd.mono_l k
    · intro y0 y1
      unfold quadratic_gcd.l0
      repeat' first
      | (with_reducible exact ih0 _ _)
      | (with_reducible exact LeO.refl _)
      | (with_reducible exact LeO.none _)
      | (with_reducible refine LeO.ite ?_ ?_)
      | (with_reducible refine LeO.bind ?_ (fun _ => ?_))
      | exact ih0 _ _
      | exact LeO.none _
      | refine LeO.ite ?_ ?_
      | refine LeO.bind ?_ (fun _ => ?_)
theorem quadratic_gcd.mono : ∀ a0 a1 k, LeO (quadratic_gcd.f k a0 a1) (quadratic_gcd.f (k + 1) a0 a1) := by
  intro a0 a1 k
  have ih0 := quadratic_gcd.mono_l k
  unfold quadratic_gcd.f
  repeat' first
      | (with_reducible exact ih0 _ _)
      | (with_reducible exact LeO.refl _)
      | (with_reducible exact LeO.none _)
      | (with_reducible refine LeO.ite ?_ ?_)
      | (with_reducible refine LeO.bind ?_ (fun _ => ?_))
      | exact ih0 _ _
      | exact LeO.none _
      | refine LeO.ite ?_ ?_
      | refine LeO.bind ?_ (fun _ => ?_)
set_option maxHeartbeats 8000000 in
set_option maxRecDepth 100000 in
theorem quadratic_gcd.calls (k : Nat) (a0 : Int) (a1 : Int) (r : Int) (w : World) (h : quadratic_gcd.f k a0 a1 = some r) :
    Calls Try.prog 16 #[.int .i64 a0, .int .i64 a1] w fun e w' => e = .returned (.int .i64 r) ∧ Below w.heap.size w w' := by
  have HB := Aside0.mk (Below.refl w.heap.size w)
  have H : (quadratic_gcd.l0 k a0 a1) = some r := h
  clear h
  have H' := Aside0.mk H
  clear H
  go_enter Try.func16, Try.ntmps16
  go_wp2
  repeat (go_quiet (fail); try go_wp2)
  go_loopg [0, 1] k (fun kq v0 v1 w' => ∃ (x0_1 : Int) (x1_1 : Int), v0 = .int .i64 x0_1 ∧ v1 = .int .i64 x1_1 ∧ Aside0 (quadratic_gcd.l0 kq x0_1 x1_1 = some r) ∧ Aside0 (kq ≤ k) ∧ Aside0 (Below w.heap.size w w'))
  case atStart => exact ⟨(a0), (a1), (by first | rfl | (simp; done) | (simp [*]; done)), (by first | rfl | (simp; done) | (simp [*]; done)), H', ⟨Nat.le_refl _⟩, ⟨by repeat (first | (with_reducible first | exact HB.out | apply below_alloc | apply pw_below_drewN | apply below_drew1) | exact HB.out)⟩⟩
  case round =>
    clear H'
    try clear c1
    try clear p2
    obtain ⟨x0_1, x1_1, rfl, rfl, HA, HK1, HB⟩ := hrel
    cases gk with
    | zero => exact absurd HA.out (by simp [quadratic_gcd.l0])
    | succ k1 =>
      have H := HA.out
      clear HA
      simp only [quadratic_gcd.l0] at H
      by_cases c3 : x1_1 = 0
      · rw [if_pos c3] at H
        have c3b0 : (x1_1 == 0) = true := beq_iff_eq.mpr c3
        have c3b1 : (x1_1 != 0) = false := bne_eq_false_iff_eq.mpr c3
        clear c3
        obtain ⟨ji4, hji4⟩ : ∃ j_ : Int, (mx x0_1 (wrap64 (-x0_1))) = j_ := ⟨_, rfl⟩
        replace H : (some ji4) = some r := by first | (rw [hji4] at H; exact H) | (simp only [hji4] at H ⊢; exact H)
        have hji4_ : (if x0_1 < (wrap64 (-x0_1)) then (wrap64 (-x0_1)) else x0_1) = ji4 := hji4
        obtain rfl := Option.some.inj H
        go_wp2
        repeat (go_quiet (fail); try go_wp2)
        go_ret
        exact ⟨by first | rfl | (simp [errW_none, errW_some] <;> rfl) | (simp only [← hji4]; first | rfl | (simp [errW_none, errW_some] <;> rfl)) | (simp [*, errW_none, errW_some] <;> rfl), by repeat (first | (with_reducible first | exact HB.out | apply below_alloc | apply pw_below_drewN | apply below_drew1) | exact HB.out)⟩
      · rw [if_neg c3] at H
        have c3b0 : (x1_1 == 0) = false := beq_eq_false_iff_ne.mpr c3
        have c3b1 : (x1_1 != 0) = true := bne_iff_ne.mpr c3
        have H' := Aside0.mk H
        clear H
        go_wp2
        repeat (go_quiet (fail); try go_wp2)
        go_roundg k1
        case measure => have := HK1.out; omega
        case rel => exact ⟨(x1_1), (Int.tmod x0_1 x1_1), (by first | rfl | (simp; done) | (simp [*]; done)), (by first | rfl | (simp; done) | (simp [*]; done)), H', ⟨by have := HK1.out; omega⟩, ⟨by repeat (first | (with_reducible first | exact HB.out | apply below_alloc | apply pw_below_drewN | apply below_drew1) | exact HB.out)⟩⟩

/-! ### quadratic_Forms_1: function 18 -/
def quadratic_Forms_1.f (a0_0 : Int) (a0_1 : Int) (a0_2 : Int) (a1_0 : Int) (a1_1 : Int) (a1_2 : Int) : Option (Int) := if a0_0 = a1_0 then (if a0_1 = a1_1 then (some (wrap64 (a0_2 - a1_2))) else (some (wrap64 (a0_1 - a1_1)))) else (some (wrap64 (a0_0 - a1_0)))
set_option maxHeartbeats 8000000 in
set_option maxRecDepth 100000 in
theorem quadratic_Forms_1.calls (a0_0 : Int) (a0_1 : Int) (a0_2 : Int) (a1_0 : Int) (a1_1 : Int) (a1_2 : Int) (r : Int) (w : World) (h : quadratic_Forms_1.f a0_0 a0_1 a0_2 a1_0 a1_1 a1_2 = some r) :
    Calls Try.prog 18 #[.agg #[.int .i64 a0_0, .int .i64 a0_1, .int .i64 a0_2], .agg #[.int .i64 a1_0, .int .i64 a1_1, .int .i64 a1_2]] w fun e w' => e = .returned (.int .i64 r) ∧ Below w.heap.size w w' := by
  have hu31 := Try.underlying31
  have HB := Aside0.mk (Below.refl w.heap.size w)
  have H : (if a0_0 = a1_0 then (if a0_1 = a1_1 then (some (wrap64 (a0_2 - a1_2))) else (some (wrap64 (a0_1 - a1_1)))) else (some (wrap64 (a0_0 - a1_0)))) = some r := h
  clear h
  by_cases c3 : a0_0 = a1_0
  · rw [if_pos c3] at H
    have c3b0 : (a0_0 == a1_0) = true := beq_iff_eq.mpr c3
    have c3b1 : (a0_0 != a1_0) = false := bne_eq_false_iff_eq.mpr c3
    clear c3
    by_cases c4 : a0_1 = a1_1
    · rw [if_pos c4] at H
      have c4b0 : (a0_1 == a1_1) = true := beq_iff_eq.mpr c4
      have c4b1 : (a0_1 != a1_1) = false := bne_eq_false_iff_eq.mpr c4
      clear c4
      obtain rfl := Option.some.inj H
      go_enter Try.func18, Try.ntmps18
      go_wp2_with (first | ((with_reducible refine gate_dst (N := 2) rfl ?_); refine box_event ?hg (N := 2) ?hd (cs := #[.int .i64 a0_0, .int .i64 a0_1, .int .i64 a0_2]) (t := 31) ?hr ?_; (case hd => rfl); (case hg => rfl); (case hr => first | (go_simp; done) | (go_simp; rfl)); intro gb119 hg w5 hbox hb; have n0_ := Aside0.mk (below_step (by repeat (first | (with_reducible first | exact HB.out | apply below_alloc | apply pw_below_drewN | apply below_drew1) | exact HB.out)) hb); have n1_ := Aside0.mk (hbox); have n2_ := Aside0.mk ((by rw [hg]; exact (below_size (by repeat (first | (with_reducible first | exact HB.out | apply below_alloc | apply pw_below_drewN | apply below_drew1) | exact HB.out))) : w.heap.size ≤ gb119)); have n3_ := Aside0.mk ((by rw [hg]; exact (below_size (by repeat (first | (with_reducible first | exact HB.out | apply below_alloc | apply pw_below_drewN | apply below_drew1) | exact HB.out))) : w.heap.size ≤ gb119)); clear HB; have HB := n0_; have BK119 := n1_; have GW119 := n2_; have GE119 := n3_; clear n0_ n1_ n2_ n3_; clear hb hbox hg) | ((with_reducible refine gate_dst (N := 3) rfl ?_); refine box_event ?hg (N := 3) ?hd (cs := #[.int .i64 a1_0, .int .i64 a1_1, .int .i64 a1_2]) (t := 31) ?hr ?_; (case hd => rfl); (case hg => rfl); (case hr => first | (go_simp; done) | (go_simp; rfl)); intro gb120 hg w6 hbox hb; have n0_ := Aside0.mk (blk_below (g := gb119) (o := .cells #[.int .i64 a0_0, .int .i64 a0_1, .int .i64 a0_2] 31 (0, 0)) (by (with_reducible repeat (first | refine blk_drewN ?_ _ | refine blk_drew ?_ | refine blk_alloc ?_ _)); exact BK119.out) hb); have n1_ := Aside0.mk (below_step (by repeat (first | (with_reducible first | exact HB.out | apply below_alloc | apply pw_below_drewN | apply below_drew1 | refine below_set ?_ GE119.out) | exact HB.out)) hb); have n2_ := Aside0.mk (hbox); have n3_ := Aside0.mk ((by rw [hg]; exact (below_size (by repeat (first | (with_reducible first | exact HB.out | apply below_alloc | apply pw_below_drewN | apply below_drew1 | refine below_set ?_ GE119.out) | exact HB.out))) : w.heap.size ≤ gb120)); have n4_ := Aside0.mk ((by rw [hg]; exact (below_size (by repeat (first | (with_reducible first | exact HB.out | apply below_alloc | apply pw_below_drewN | apply below_drew1 | refine below_set ?_ GE119.out) | exact HB.out))) : w.heap.size ≤ gb120)); have n5_ := Aside0.mk ((by rw [hg]; exact Nat.ne_of_lt (blk_lt (g := gb119) (o := .cells #[.int .i64 a0_0, .int .i64 a0_1, .int .i64 a0_2] 31 (0, 0)) (by (with_reducible repeat (first | refine blk_drewN ?_ _ | refine blk_drew ?_ | refine blk_alloc ?_ _)); exact BK119.out)) : gb119 ≠ gb120)); have n6_ := Aside0.mk ((by rw [hg]; exact Nat.ne_of_gt (blk_lt (g := gb119) (o := .cells #[.int .i64 a0_0, .int .i64 a0_1, .int .i64 a0_2] 31 (0, 0)) (by (with_reducible repeat (first | refine blk_drewN ?_ _ | refine blk_drew ?_ | refine blk_alloc ?_ _)); exact BK119.out)) : gb120 ≠ gb119)); clear BK119; clear HB; have BK119 := n0_; have HB := n1_; have BK120 := n2_; have GW120 := n3_; have GE120 := n4_; have NB119_120 := n5_; have NB120_119 := n6_; clear n0_ n1_ n2_ n3_ n4_ n5_ n6_; clear hb hbox hg; have hnb7 := NB119_120.out; have hnc7 := NB120_119.out; have hcz8_0 : w6.cell? ⟨gb119, 0, none⟩ = some (.int .i64 a0_0) := (blk_cell BK119.out 0).trans rfl; have hcz8_1 : w6.cell? ⟨gb119, 1, none⟩ = some (.int .i64 a0_1) := (blk_cell BK119.out 1).trans rfl; have hcz8_2 : w6.cell? ⟨gb119, 2, none⟩ = some (.int .i64 a0_2) := (blk_cell BK119.out 2).trans rfl; have hfz8_0 := blk_frozen BK119.out 0; have hfz8_1 := blk_frozen BK119.out 1; have hfz8_2 := blk_frozen BK119.out 2; have hcz9_0 : w6.cell? ⟨gb120, 0, none⟩ = some (.int .i64 a1_0) := (blk_cell BK120.out 0).trans rfl; have hcz9_1 : w6.cell? ⟨gb120, 1, none⟩ = some (.int .i64 a1_1) := (blk_cell BK120.out 1).trans rfl; have hcz9_2 : w6.cell? ⟨gb120, 2, none⟩ = some (.int .i64 a1_2) := (blk_cell BK120.out 2).trans rfl; have hfz9_0 := blk_frozen BK120.out 0; have hfz9_1 := blk_frozen BK120.out 1; have hfz9_2 := blk_frozen BK120.out 2))
      go_ret
      exact ⟨by first | rfl | (simp [errW_none, errW_some] <;> rfl) | (simp [*, errW_none, errW_some] <;> rfl), by repeat (first | (with_reducible first | exact HB.out | apply below_alloc | apply pw_below_drewN | apply below_drew1 | refine below_set ?_ GE119.out | refine below_set ?_ GE120.out) | exact HB.out)⟩
    · rw [if_neg c4] at H
      have c4b0 : (a0_1 == a1_1) = false := beq_eq_false_iff_ne.mpr c4
      have c4b1 : (a0_1 != a1_1) = true := bne_iff_ne.mpr c4
      obtain rfl := Option.some.inj H
      go_enter Try.func18, Try.ntmps18
      go_wp2_with (first | ((with_reducible refine gate_dst (N := 2) rfl ?_); refine box_event ?hg (N := 2) ?hd (cs := #[.int .i64 a0_0, .int .i64 a0_1, .int .i64 a0_2]) (t := 31) ?hr ?_; (case hd => rfl); (case hg => rfl); (case hr => first | (go_simp; done) | (go_simp; rfl)); intro gb119 hg w10 hbox hb; have n0_ := Aside0.mk (below_step (by repeat (first | (with_reducible first | exact HB.out | apply below_alloc | apply pw_below_drewN | apply below_drew1) | exact HB.out)) hb); have n1_ := Aside0.mk (hbox); have n2_ := Aside0.mk ((by rw [hg]; exact (below_size (by repeat (first | (with_reducible first | exact HB.out | apply below_alloc | apply pw_below_drewN | apply below_drew1) | exact HB.out))) : w.heap.size ≤ gb119)); have n3_ := Aside0.mk ((by rw [hg]; exact (below_size (by repeat (first | (with_reducible first | exact HB.out | apply below_alloc | apply pw_below_drewN | apply below_drew1) | exact HB.out))) : w.heap.size ≤ gb119)); clear HB; have HB := n0_; have BK119 := n1_; have GW119 := n2_; have GE119 := n3_; clear n0_ n1_ n2_ n3_; clear hb hbox hg) | ((with_reducible refine gate_dst (N := 3) rfl ?_); refine box_event ?hg (N := 3) ?hd (cs := #[.int .i64 a1_0, .int .i64 a1_1, .int .i64 a1_2]) (t := 31) ?hr ?_; (case hd => rfl); (case hg => rfl); (case hr => first | (go_simp; done) | (go_simp; rfl)); intro gb120 hg w11 hbox hb; have n0_ := Aside0.mk (blk_below (g := gb119) (o := .cells #[.int .i64 a0_0, .int .i64 a0_1, .int .i64 a0_2] 31 (0, 0)) (by (with_reducible repeat (first | refine blk_drewN ?_ _ | refine blk_drew ?_ | refine blk_alloc ?_ _)); exact BK119.out) hb); have n1_ := Aside0.mk (below_step (by repeat (first | (with_reducible first | exact HB.out | apply below_alloc | apply pw_below_drewN | apply below_drew1 | refine below_set ?_ GE119.out) | exact HB.out)) hb); have n2_ := Aside0.mk (hbox); have n3_ := Aside0.mk ((by rw [hg]; exact (below_size (by repeat (first | (with_reducible first | exact HB.out | apply below_alloc | apply pw_below_drewN | apply below_drew1 | refine below_set ?_ GE119.out) | exact HB.out))) : w.heap.size ≤ gb120)); have n4_ := Aside0.mk ((by rw [hg]; exact (below_size (by repeat (first | (with_reducible first | exact HB.out | apply below_alloc | apply pw_below_drewN | apply below_drew1 | refine below_set ?_ GE119.out) | exact HB.out))) : w.heap.size ≤ gb120)); have n5_ := Aside0.mk ((by rw [hg]; exact Nat.ne_of_lt (blk_lt (g := gb119) (o := .cells #[.int .i64 a0_0, .int .i64 a0_1, .int .i64 a0_2] 31 (0, 0)) (by (with_reducible repeat (first | refine blk_drewN ?_ _ | refine blk_drew ?_ | refine blk_alloc ?_ _)); exact BK119.out)) : gb119 ≠ gb120)); have n6_ := Aside0.mk ((by rw [hg]; exact Nat.ne_of_gt (blk_lt (g := gb119) (o := .cells #[.int .i64 a0_0, .int .i64 a0_1, .int .i64 a0_2] 31 (0, 0)) (by (with_reducible repeat (first | refine blk_drewN ?_ _ | refine blk_drew ?_ | refine blk_alloc ?_ _)); exact BK119.out)) : gb120 ≠ gb119)); clear BK119; clear HB; have BK119 := n0_; have HB := n1_; have BK120 := n2_; have GW120 := n3_; have GE120 := n4_; have NB119_120 := n5_; have NB120_119 := n6_; clear n0_ n1_ n2_ n3_ n4_ n5_ n6_; clear hb hbox hg; have hnb12 := NB119_120.out; have hnc12 := NB120_119.out; have hcz13_0 : w11.cell? ⟨gb119, 0, none⟩ = some (.int .i64 a0_0) := (blk_cell BK119.out 0).trans rfl; have hcz13_1 : w11.cell? ⟨gb119, 1, none⟩ = some (.int .i64 a0_1) := (blk_cell BK119.out 1).trans rfl; have hcz13_2 : w11.cell? ⟨gb119, 2, none⟩ = some (.int .i64 a0_2) := (blk_cell BK119.out 2).trans rfl; have hfz13_0 := blk_frozen BK119.out 0; have hfz13_1 := blk_frozen BK119.out 1; have hfz13_2 := blk_frozen BK119.out 2; have hcz14_0 : w11.cell? ⟨gb120, 0, none⟩ = some (.int .i64 a1_0) := (blk_cell BK120.out 0).trans rfl; have hcz14_1 : w11.cell? ⟨gb120, 1, none⟩ = some (.int .i64 a1_1) := (blk_cell BK120.out 1).trans rfl; have hcz14_2 : w11.cell? ⟨gb120, 2, none⟩ = some (.int .i64 a1_2) := (blk_cell BK120.out 2).trans rfl; have hfz14_0 := blk_frozen BK120.out 0; have hfz14_1 := blk_frozen BK120.out 1; have hfz14_2 := blk_frozen BK120.out 2))
      go_ret
      exact ⟨by first | rfl | (simp [errW_none, errW_some] <;> rfl) | (simp [*, errW_none, errW_some] <;> rfl), by repeat (first | (with_reducible first | exact HB.out | apply below_alloc | apply pw_below_drewN | apply below_drew1 | refine below_set ?_ GE119.out | refine below_set ?_ GE120.out) | exact HB.out)⟩
  · rw [if_neg c3] at H
    have c3b0 : (a0_0 == a1_0) = false := beq_eq_false_iff_ne.mpr c3
    have c3b1 : (a0_0 != a1_0) = true := bne_iff_ne.mpr c3
    obtain rfl := Option.some.inj H
    go_enter Try.func18, Try.ntmps18
    go_wp2_with (first | ((with_reducible refine gate_dst (N := 2) rfl ?_); refine box_event ?hg (N := 2) ?hd (cs := #[.int .i64 a0_0, .int .i64 a0_1, .int .i64 a0_2]) (t := 31) ?hr ?_; (case hd => rfl); (case hg => rfl); (case hr => first | (go_simp; done) | (go_simp; rfl)); intro gb119 hg w15 hbox hb; have n0_ := Aside0.mk (below_step (by repeat (first | (with_reducible first | exact HB.out | apply below_alloc | apply pw_below_drewN | apply below_drew1) | exact HB.out)) hb); have n1_ := Aside0.mk (hbox); have n2_ := Aside0.mk ((by rw [hg]; exact (below_size (by repeat (first | (with_reducible first | exact HB.out | apply below_alloc | apply pw_below_drewN | apply below_drew1) | exact HB.out))) : w.heap.size ≤ gb119)); have n3_ := Aside0.mk ((by rw [hg]; exact (below_size (by repeat (first | (with_reducible first | exact HB.out | apply below_alloc | apply pw_below_drewN | apply below_drew1) | exact HB.out))) : w.heap.size ≤ gb119)); clear HB; have HB := n0_; have BK119 := n1_; have GW119 := n2_; have GE119 := n3_; clear n0_ n1_ n2_ n3_; clear hb hbox hg) | ((with_reducible refine gate_dst (N := 3) rfl ?_); refine box_event ?hg (N := 3) ?hd (cs := #[.int .i64 a1_0, .int .i64 a1_1, .int .i64 a1_2]) (t := 31) ?hr ?_; (case hd => rfl); (case hg => rfl); (case hr => first | (go_simp; done) | (go_simp; rfl)); intro gb120 hg w16 hbox hb; have n0_ := Aside0.mk (blk_below (g := gb119) (o := .cells #[.int .i64 a0_0, .int .i64 a0_1, .int .i64 a0_2] 31 (0, 0)) (by (with_reducible repeat (first | refine blk_drewN ?_ _ | refine blk_drew ?_ | refine blk_alloc ?_ _)); exact BK119.out) hb); have n1_ := Aside0.mk (below_step (by repeat (first | (with_reducible first | exact HB.out | apply below_alloc | apply pw_below_drewN | apply below_drew1 | refine below_set ?_ GE119.out) | exact HB.out)) hb); have n2_ := Aside0.mk (hbox); have n3_ := Aside0.mk ((by rw [hg]; exact (below_size (by repeat (first | (with_reducible first | exact HB.out | apply below_alloc | apply pw_below_drewN | apply below_drew1 | refine below_set ?_ GE119.out) | exact HB.out))) : w.heap.size ≤ gb120)); have n4_ := Aside0.mk ((by rw [hg]; exact (below_size (by repeat (first | (with_reducible first | exact HB.out | apply below_alloc | apply pw_below_drewN | apply below_drew1 | refine below_set ?_ GE119.out) | exact HB.out))) : w.heap.size ≤ gb120)); have n5_ := Aside0.mk ((by rw [hg]; exact Nat.ne_of_lt (blk_lt (g := gb119) (o := .cells #[.int .i64 a0_0, .int .i64 a0_1, .int .i64 a0_2] 31 (0, 0)) (by (with_reducible repeat (first | refine blk_drewN ?_ _ | refine blk_drew ?_ | refine blk_alloc ?_ _)); exact BK119.out)) : gb119 ≠ gb120)); have n6_ := Aside0.mk ((by rw [hg]; exact Nat.ne_of_gt (blk_lt (g := gb119) (o := .cells #[.int .i64 a0_0, .int .i64 a0_1, .int .i64 a0_2] 31 (0, 0)) (by (with_reducible repeat (first | refine blk_drewN ?_ _ | refine blk_drew ?_ | refine blk_alloc ?_ _)); exact BK119.out)) : gb120 ≠ gb119)); clear BK119; clear HB; have BK119 := n0_; have HB := n1_; have BK120 := n2_; have GW120 := n3_; have GE120 := n4_; have NB119_120 := n5_; have NB120_119 := n6_; clear n0_ n1_ n2_ n3_ n4_ n5_ n6_; clear hb hbox hg; have hnb17 := NB119_120.out; have hnc17 := NB120_119.out; have hcz18_0 : w16.cell? ⟨gb119, 0, none⟩ = some (.int .i64 a0_0) := (blk_cell BK119.out 0).trans rfl; have hcz18_1 : w16.cell? ⟨gb119, 1, none⟩ = some (.int .i64 a0_1) := (blk_cell BK119.out 1).trans rfl; have hcz18_2 : w16.cell? ⟨gb119, 2, none⟩ = some (.int .i64 a0_2) := (blk_cell BK119.out 2).trans rfl; have hfz18_0 := blk_frozen BK119.out 0; have hfz18_1 := blk_frozen BK119.out 1; have hfz18_2 := blk_frozen BK119.out 2; have hcz19_0 : w16.cell? ⟨gb120, 0, none⟩ = some (.int .i64 a1_0) := (blk_cell BK120.out 0).trans rfl; have hcz19_1 : w16.cell? ⟨gb120, 1, none⟩ = some (.int .i64 a1_1) := (blk_cell BK120.out 1).trans rfl; have hcz19_2 : w16.cell? ⟨gb120, 2, none⟩ = some (.int .i64 a1_2) := (blk_cell BK120.out 2).trans rfl; have hfz19_0 := blk_frozen BK120.out 0; have hfz19_1 := blk_frozen BK120.out 1; have hfz19_2 := blk_frozen BK120.out 2))
    go_ret
    exact ⟨by first | rfl | (simp [errW_none, errW_some] <;> rfl) | (simp [*, errW_none, errW_some] <;> rfl), by repeat (first | (with_reducible first | exact HB.out | apply below_alloc | apply pw_below_drewN | apply below_drew1 | refine below_set ?_ GE119.out | refine below_set ?_ GE120.out) | exact HB.out)⟩

/-! ### api_Form: function 17 -/
section
open Go.Shelf Go.Lib Go.Sort
def sortF_ren : Go.Shelf.Ren :=
  ⟨fun | 6 => 17 | 15 => 24 | 14 => 23 | 28 => 34 | 29 => 35 | 20 => 26 | 21 => 27 | 22 => 28 | 23 => 29 | 24 => 30 | 25 => 31 | 26 => 32 | 27 => 33 | 46 => 38 | 47 => 39 | 48 => 40 | 49 => 41 | 50 => 42 | 57 => 45 | n => n,
   fun | 22 => 24 | 24 => 31 | 25 => 40 | 3 => 3 | 39 => 44 | 0 => 0 | 53 => 54 | 55 => 56 | 4 => 4 | 46 => 47 | 45 => 46 | 50 => 51 | 5 => 5 | 9 => 9 | 66 => 58 | 70 => 62 | 76 => 65 | 77 => 34 | n => n,
   fun | n => n⟩
theorem sortF_lays : SlLaysF0.n6 Try.prog sortF_ren := {
  mixed := by kernel_rfl,
  f6 := ⟨Try.f17.name, by decide, by kernel_rfl⟩,
  f14 := ⟨Try.f23.name, by decide, by kernel_rfl⟩,
  f15 := by kernel_rfl,
  f20 := ⟨Try.f26.name, by decide, by kernel_rfl⟩,
  f21 := ⟨Try.f27.name, by decide, by kernel_rfl⟩,
  f22 := ⟨Try.f28.name, by decide, by kernel_rfl⟩,
  f23 := ⟨Try.f29.name, by decide, by kernel_rfl⟩,
  f24 := ⟨Try.f30.name, by decide, by kernel_rfl⟩,
  f25 := ⟨Try.f31.name, by decide, by kernel_rfl⟩,
  f26 := ⟨Try.f32.name, by decide, by kernel_rfl⟩,
  f27 := ⟨Try.f33.name, by decide, by kernel_rfl⟩,
  f28 := by kernel_rfl,
  f29 := by kernel_rfl,
  f46 := ⟨Try.f38.name, by decide, by kernel_rfl⟩,
  f47 := by kernel_rfl,
  f48 := by kernel_rfl,
  f49 := ⟨Try.f41.name, by decide, by kernel_rfl⟩,
  f50 := ⟨Try.f42.name, by decide, by kernel_rfl⟩,
  f57 := ⟨Try.f45.name, by decide, by kernel_rfl⟩,
  t0 := by kernel_rfl,
  a0 := fun _ => by kernel_rfl,
  z0 := fun _ => by kernel_rfl,
  v0 := fun _ => by kernel_rfl,
  t3 := by kernel_rfl,
  a3 := fun _ => by kernel_rfl,
  z3 := fun _ => by kernel_rfl,
  v3 := fun _ => by kernel_rfl,
  t4 := by kernel_rfl,
  a4 := fun _ => by kernel_rfl,
  z4 := fun _ => by kernel_rfl,
  v4 := fun _ => by kernel_rfl,
  t5 := by kernel_rfl,
  a5 := fun _ => by kernel_rfl,
  z5 := fun _ => by kernel_rfl,
  v5 := fun _ => by kernel_rfl,
  t9 := by kernel_rfl,
  a9 := fun _ => by kernel_rfl,
  z9 := fun _ => by kernel_rfl,
  v9 := fun _ => by kernel_rfl,
  t22 := by kernel_rfl,
  a22 := fun _ => by kernel_rfl,
  z22 := fun _ => by kernel_rfl,
  v22 := fun _ => by kernel_rfl,
  t25 := by kernel_rfl,
  a25 := fun _ => by kernel_rfl,
  z25 := fun _ => by kernel_rfl,
  v25 := fun _ => by kernel_rfl,
  t39 := by kernel_rfl,
  a39 := fun _ => by kernel_rfl,
  z39 := fun _ => by kernel_rfl,
  v39 := fun _ => by kernel_rfl,
  t45 := by kernel_rfl,
  a45 := fun _ => by kernel_rfl,
  z45 := fun _ => by kernel_rfl,
  v45 := fun _ => by kernel_rfl,
  t46 := by kernel_rfl,
  a46 := fun _ => by kernel_rfl,
  z46 := fun _ => by kernel_rfl,
  v46 := fun _ => by kernel_rfl,
  t50 := by kernel_rfl,
  a50 := fun _ => by kernel_rfl,
  z50 := fun _ => by kernel_rfl,
  v50 := fun _ => by kernel_rfl,
  t53 := by kernel_rfl,
  a53 := fun _ => by kernel_rfl,
  z53 := fun _ => by kernel_rfl,
  v53 := fun _ => by kernel_rfl,
  t55 := by kernel_rfl,
  a55 := fun _ => by kernel_rfl,
  z55 := fun _ => by kernel_rfl,
  v55 := fun _ => by kernel_rfl,
  t66 := by kernel_rfl,
  a66 := fun _ => by kernel_rfl,
  z66 := fun _ => by kernel_rfl,
  v66 := fun _ => by kernel_rfl,
  t70 := by kernel_rfl,
  a70 := fun _ => by kernel_rfl,
  z70 := fun _ => by kernel_rfl,
  v70 := fun _ => by kernel_rfl,
  t76 := by kernel_rfl,
  a76 := fun _ => by kernel_rfl,
  z76 := fun _ => by kernel_rfl,
  v76 := fun _ => by kernel_rfl,
  t77 := by kernel_rfl,
  a77 := fun _ => by kernel_rfl,
  z77 := fun _ => by kernel_rfl,
  v77 := fun _ => by kernel_rfl }
end
/-- A form whose parts are small. -/
def smallF (x : S31) : Bool := decide (-100000 ≤ x.f0 ∧ x.f0 ≤ 100000 ∧ -100000 ≤ x.f1 ∧ x.f1 ≤ 100000 ∧ -100000 ≤ x.f2 ∧ x.f2 ≤ 100000)
def cmpF (x y : S31) : Int := if x.f0 = y.f0 then (if x.f1 = y.f1 then x.f2 - y.f2 else x.f1 - y.f1) else x.f0 - y.f0
abbrev BF : Type := { x : S31 // smallF x = true }
instance : Inhabited BF := ⟨⟨⟨0, 0, 0⟩, rfl⟩⟩
def encF (x : BF) : List Value := [.int .i64 x.1.f0, .int .i64 x.1.f1, .int .i64 x.1.f2]
def cmpB (x y : BF) : Int := cmpF x.1 y.1
theorem sub64 (a b : Int) (ha : -100000 ≤ a ∧ a ≤ 100000) (hb : -100000 ≤ b ∧ b ≤ 100000) : wrap64 (a - b) = a - b := by unfold wrap64; omega
theorem smallF_of {x : S31} (h : smallF x = true) : (-100000 ≤ x.f0 ∧ x.f0 ≤ 100000) ∧ (-100000 ≤ x.f1 ∧ x.f1 ≤ 100000) ∧ (-100000 ≤ x.f2 ∧ x.f2 ≤ 100000) := by
  have := of_decide_eq_true h
  omega
theorem cmp_gives (a0 a1 a2 b0 b1 b2 : Int) (hx : smallF ⟨a0, a1, a2⟩ = true) (hy : smallF ⟨b0, b1, b2⟩ = true) : quadratic_Forms_1.f a0 a1 a2 b0 b1 b2 = some (cmpF ⟨a0, a1, a2⟩ ⟨b0, b1, b2⟩) := by
  obtain ⟨x0, x1, x2⟩ := smallF_of hx
  obtain ⟨y0, y1, y2⟩ := smallF_of hy
  unfold quadratic_Forms_1.f cmpF
  simp only at x0 x1 x2 y0 y1 y2 ⊢
  rw [sub64 _ _ x0 y0, sub64 _ _ x1 y1, sub64 _ _ x2 y2]
  split
  · split <;> rfl
  · rfl
set_option maxHeartbeats 8000000 in
set_option maxRecDepth 100000 in
theorem cmp_walk (a0_0 a0_1 a0_2 a1_0 a1_1 a1_2 : Int) (r : Int) (w : World) (h : quadratic_Forms_1.f a0_0 a0_1 a0_2 a1_0 a1_1 a1_2 = some r) :
    Calls Try.prog 18 #[.agg #[.int .i64 a0_0, .int .i64 a0_1, .int .i64 a0_2], .agg #[.int .i64 a1_0, .int .i64 a1_1, .int .i64 a1_2]] w fun e w' => e = .returned (.int .i64 r) ∧ ∃ q os', w' = Go.Sort.grow (w.drewN q) os' := by
  unfold quadratic_Forms_1.f at h
  by_cases c0 : a0_0 = a1_0
  · rw [if_pos c0] at h
    have c0b0 : (a0_0 == a1_0) = true := beq_iff_eq.mpr c0
    have c0b1 : (a0_0 != a1_0) = false := bne_eq_false_iff_eq.mpr c0
    clear c0
    by_cases c1 : a0_1 = a1_1
    · rw [if_pos c1] at h
      have c1b0 : (a0_1 == a1_1) = true := beq_iff_eq.mpr c1
      have c1b1 : (a0_1 != a1_1) = false := bne_eq_false_iff_eq.mpr c1
      clear c1
      obtain rfl := Option.some.inj h
      go_enter Try.func18, Try.ntmps18
      go_wp2
      go_ret
      exact ⟨rfl, 0, _, by rw [Go.Sort.alloc_eq_grow, Go.Sort.alloc_eq_grow, Go.Sort.grow_grow]; rfl⟩
    · rw [if_neg c1] at h
      have c1b0 : (a0_1 == a1_1) = false := beq_eq_false_iff_ne.mpr c1
      have c1b1 : (a0_1 != a1_1) = true := bne_iff_ne.mpr c1
      clear c1
      obtain rfl := Option.some.inj h
      go_enter Try.func18, Try.ntmps18
      go_wp2
      go_ret
      exact ⟨rfl, 0, _, by rw [Go.Sort.alloc_eq_grow, Go.Sort.alloc_eq_grow, Go.Sort.grow_grow]; rfl⟩
  · rw [if_neg c0] at h
    have c0b0 : (a0_0 == a1_0) = false := beq_eq_false_iff_ne.mpr c0
    have c0b1 : (a0_0 != a1_0) = true := bne_iff_ne.mpr c0
    clear c0
    obtain rfl := Option.some.inj h
    go_enter Try.func18, Try.ntmps18
    go_wp2
    go_ret
    exact ⟨rfl, 0, _, by rw [Go.Sort.alloc_eq_grow, Go.Sort.alloc_eq_grow, Go.Sort.grow_grow]; rfl⟩
theorem cmp_lays (blk off size : Nat) (w : World) : CmpLays Try.prog 18 #[] encF 3 cmpB blk off size w :=
  fun _ _ _ _ x y => cmp_walk _ _ _ _ _ _ _ _ (cmp_gives _ _ _ _ _ _ x.2 y.2)
theorem ltB (x y : BF) : ltOf cmpB x y = true ↔ (x.1.f0 < y.1.f0 ∨ (x.1.f0 = y.1.f0 ∧ (x.1.f1 < y.1.f1 ∨ (x.1.f1 = y.1.f1 ∧ x.1.f2 < y.1.f2)))) := by
  unfold ltOf cmpB cmpF
  rw [decide_eq_true_iff]
  split
  · split <;> omega
  · omega
theorem ltB' (x y : BF) : ltOf cmpB x y = false ↔ ¬ (x.1.f0 < y.1.f0 ∨ (x.1.f0 = y.1.f0 ∧ (x.1.f1 < y.1.f1 ∨ (x.1.f1 = y.1.f1 ∧ x.1.f2 < y.1.f2)))) := by
  rw [← ltB]; simp
theorem swoB : Go.Sort.SWO (ltOf cmpB) where
  irrefl x := by rw [ltB']; omega
  trans x y z h1 h2 := by rw [ltB] at *; omega
  ntrans x y z h1 h2 := by rw [ltB'] at *; omega
/-- Ascending, each with each. -/
def ascF : List S31 → Bool
  | [] => true
  | x :: l => (l.all fun y => decide (cmpF y x ≥ 0)) && ascF l
def api_Form.f (l0 : List S31) : Option (List S31) := if (!l0.isEmpty && l0.all smallF && ascF l0 && decide (l0.length < 1000000)) = true then some l0 else none
theorem isAgg31 : ∀ w, (isAgg 31).run Try.prog w = .ok true w := fun _ => by kernel_rfl
theorem sizeOf31 : ∀ w, (Go.sizeOf 31).run Try.prog w = .ok 3 w := fun _ => by kernel_rfl
/-- Two ascending rows of the same elements are one. -/
theorem asc_unique : ∀ (l m : List BF), (∀ i j, i < j → j < l.length → ltOf cmpB l[j]! l[i]! = false) → (∀ i j, i < j → j < m.length → ltOf cmpB m[j]! m[i]! = false) → l.Perm m → l = m := by
  intro l m hl hm hp
  have key : ∀ k : List BF, (∀ i j, i < j → j < k.length → ltOf cmpB k[j]! k[i]! = false) → k.Pairwise (fun x y => ltOf cmpB y x = false) := by
    intro k hk
    rw [List.pairwise_iff_getElem]
    intro i j hi hj hij
    have := hk i j hij hj
    rwa [getElem!_pos k j hj, getElem!_pos k i hi] at this
  have anti : ∀ x y : BF, ltOf cmpB y x = false → ltOf cmpB x y = false → x = y := by
    intro x y h1 h2
    rw [ltB'] at h1 h2
    obtain ⟨⟨a0, a1, a2⟩, ha⟩ := x
    obtain ⟨⟨b0, b1, b2⟩, hb⟩ := y
    simp only at h1 h2
    obtain rfl : a0 = b0 := by omega
    obtain rfl : a1 = b1 := by omega
    obtain rfl : a2 = b2 := by omega
    rfl
  exact hp.eq_of_pairwise (fun x y _ _ h1 h2 => anti x y h1 h2) (key l hl) (key m hm)
theorem asc_get : ∀ (l : List S31), ascF l = true → ∀ (i j : Nat) (hi : i < l.length) (hj : j < l.length), i < j → cmpF l[j] l[i] ≥ 0 := by
  intro l
  induction l with
  | nil => intro _ i j hi; simp at hi
  | cons x l ih =>
    intro h i j hi hj hij
    rw [ascF, Bool.and_eq_true, List.all_eq_true] at h
    obtain ⟨h1, h2⟩ := h
    obtain ⟨j, rfl⟩ : ∃ m, j = m + 1 := ⟨j - 1, by omega⟩
    cases i with
    | zero => exact of_decide_eq_true (h1 _ (List.getElem_mem _))
    | succ i => exact ih h2 i j (by simpa using hi) (by simpa using hj) (by omega)
/-- The list as bounded forms. -/
def bound (l : List S31) (h : l.all smallF = true) : List BF := l.attach.map fun x => ⟨x.1, List.all_eq_true.mp h x.1 x.2⟩
theorem bound_len (l : List S31) (h) : (bound l h).length = l.length := by simp [bound]
theorem bound_get (l : List S31) (h) (i : Nat) (hi : i < l.length) : ((bound l h)[i]'(by rw [bound_len]; exact hi)).1 = l[i] := by simp [bound]
theorem reps_cells {base : Nat} {ok : Nat → Prop} {w : World} {xs : List S31} {inner : List Value} (h : Reps (k31.M w base ok) 3 xs inner) (i : Nat) (hi : i < xs.length) :
    inner[i * 3]? = some (.int .i64 xs[i].f0) ∧ inner[i * 3 + 1]? = some (.int .i64 xs[i].f1) ∧ inner[i * 3 + 2]? = some (.int .i64 xs[i].f2) := by
  have h1 := k31_openM (h.2 i xs[i] (List.getElem?_eq_getElem hi))
  have g : ∀ c, c < 3 → inner[i * 3 + c]? = ((inner.drop (i * 3)).take 3)[c]? := by
    intro c hc
    rw [List.getElem?_take_of_lt hc, List.getElem?_drop]
  refine ⟨?_, ?_, ?_⟩
  · have := g 0 (by omega); rw [h1] at this; simpa using this
  · have := g 1 (by omega); rw [h1] at this; simpa using this
  · have := g 2 (by omega); rw [h1] at this; simpa using this
set_option maxHeartbeats 8000000 in
theorem api_Form.holds {w : World} {base : Nat} {ok : Nat → Prop} {v : Value} {l0 : List S31} (ho : Kd.R k31 31 w base ok v l0) (h0 : l0 ≠ []) (hs : l0.all smallF = true) :
    ∃ g cap, v = .slice (some ⟨g, 0, none⟩) (bound l0 hs).toArray.size cap ∧ g < w.heap.size ∧ Go.Sort.HoldsK encF 3 w g 0 (bound l0 hs).toArray := by
  obtain ⟨hok, inner, hrow, hrep⟩ := ho
  have hrow0 := hrow
  obtain ⟨hlen, hv⟩ := hrow
  rcases hv with ⟨_, hn⟩ | ⟨g, cap, cur, rfl, hg, hh, hnc, hcap, hcur, htake⟩
  · exact absurd (List.length_eq_zero_iff.mp hn) h0
  have hlt : g < w.heap.size := by
    have := Array.getElem?_eq_some_iff.mp hh
    exact this.1
  have hz : k31.sz = 3 := rfl
  rw [hz] at hcur htake hlen hrep
  refine ⟨g, cap, by simp [bound_len], hlt, ?_⟩
  intro j hj
  have hsz : (Go.Sort.flatK encF 3 (bound l0 hs).toArray).size = l0.length * 3 := by rw [Go.Sort.size_flatK]; simp [bound_len]
  rw [hsz] at hj
  constructor
  · have hi : j / 3 < l0.length := by omega
    obtain ⟨c0, c1, c2⟩ := reps_cells hrep (j / 3) hi
    have hcell : w.cell? ⟨g, 0 + j, none⟩ = inner[j]? := by
      have e1 : inner[j]? = cur[j]? := by
        rw [← htake, List.getElem?_take_of_lt (by omega)]; simp
      have hjc : j < cur.size := by rw [hcur]; exact Nat.lt_of_lt_of_le hj (Nat.mul_le_mul_right 3 hnc)
      rw [e1, Nat.zero_add]
      simp [World.cell?, hh]
    rw [hcell]
    have hb : ((bound l0 hs).toArray)[j / 3]! = ⟨l0[j / 3], List.all_eq_true.mp hs _ (List.getElem_mem hi)⟩ := by
      rw [getElem!_pos _ _ (by simp [bound_len]; exact hi)]
      apply Subtype.ext
      simpa using bound_get l0 hs (j / 3) hi
    rw [id, Go.Sort.get_flatK encF 3 _ _ (by simp [bound_len]; exact hj), hb]
    have hm : j = j / 3 * 3 ∨ j = j / 3 * 3 + 1 ∨ j = j / 3 * 3 + 2 := by omega
    rcases hm with hm | hm | hm
    · rw [show j % 3 = 0 from by omega]; exact (congrArg (fun q => inner[q]?) hm).trans c0
    · rw [show j % 3 = 1 from by omega]; exact (congrArg (fun q => inner[q]?) hm).trans c1
    · rw [show j % 3 = 2 from by omega]; exact (congrArg (fun q => inner[q]?) hm).trans c2
  · exact hrow0.frozenAt _
set_option maxHeartbeats 8000000 in
theorem api_Form.calls (P0_ : Nat → Prop) (u9000_ : Value) (l0 : List S31) (r : List S31) (w0 w : World) (hB : Below w0.heap.size w0 w) (ho0 : Kd.R k31 31 w w0.heap.size P0_ u9000_ l0) (h : api_Form.f l0 = some r) :
    Calls Try.prog 17 #[u9000_, .func (.func 18) #[] #[]] w fun e w' => e = .returned (.tuple #[]) ∧ Kd.R k31 31 w' w0.heap.size (fun k_ => (P0_ k_ ∨ w.heap.size ≤ k_)) u9000_ r ∧ Below w0.heap.size w0 w' ∧ Kept w w' (fun k_ => P0_ k_) := by
  unfold api_Form.f at h
  split at h
  · rename_i hc
    obtain rfl := Option.some.inj h
    simp only [Bool.and_eq_true, Bool.not_eq_true', List.isEmpty_eq_false_iff, decide_eq_true_eq] at hc
    obtain ⟨⟨⟨h0, hs⟩, ha⟩, hl⟩ := hc
    obtain ⟨g, cap, rfl, hg, hH⟩ := api_Form.holds ho0 h0 hs
    have eg : ∀ args w, (callFunc 18 args).run Try.prog w = .ok (.enter 18 args) w := enters_of Try.func18 (by kernel_rfl) rfl
    have hcon := AnyQ.slices_SortFunc sortF_lays 3 isAgg31 sizeOf31 encF (fun _ => rfl) (fun x v hv => by simp [encF] at hv; rcases hv with rfl | rfl | rfl <;> rfl) cmpB swoB 18 #[] g 0 cap (bound l0 hs).toArray w eg (cmp_lays _ _ _ _) hH hg (by simp [bound_len]; omega)
    change Calls Try.prog 17 _ _ _ at hcon
    refine hcon.mono ?_
    rintro e w' ⟨rfl, d', n, os, hp, hsd, rfl⟩
    have hd : d' = (bound l0 hs).toArray := by
      obtain ⟨hsz, _, hperm⟩ := hp
      rw [← hsz, Array.extract_size, hsz, Array.extract_size] at hperm
      apply Array.toList_inj.mp
      refine asc_unique _ _ ?_ ?_ hperm
      · intro i j hij hj
        have := hsd i j (Nat.zero_le _) hij (by rw [← hsz]; simpa using hj)
        have hi' : i < d'.toList.length := by omega
        rw [getElem!_pos d'.toList j hj, getElem!_pos d'.toList i hi']
        rw [getElem!_pos d' j (by simpa using hj), getElem!_pos d' i (by simpa using hi')] at this
        simpa using this
      · intro i j hij hj
        have hj' : j < l0.length := by simpa [bound_len] using hj
        have := asc_get l0 ha i j (by omega) hj' hij
        have hi' : i < (bound l0 hs).length := by simp at hj; omega
        rw [getElem!_pos (bound l0 hs) j (by simpa using hj), getElem!_pos (bound l0 hs) i hi']
        unfold ltOf cmpB
        rw [decide_eq_false_iff_not]
        simp only [bound_get l0 hs j hj', bound_get l0 hs i (by omega)]
        omega
    subst hd
    have hw : sortWorldK encF 3 w g 0 n (bound l0 hs).toArray os = Go.Sort.grow (Go.Sort.ahead w n) os := by
      unfold sortWorldK
      rw [Go.Sort.putRowK_self encF 3 (Go.Sort.ahead w n) g 0 _ (Go.Sort.holdsK_ahead encF 3 w n g 0 _ hH)]
    rw [hw]
    have hb : Below w.heap.size w (Go.Sort.grow (Go.Sort.ahead w n) os) :=
      ⟨rfl, rfl, rfl, by rw [Go.Sort.size_grow]; exact Nat.le_add_right _ _, fun k hk => Go.Sort.heap_grow_old (Go.Sort.ahead w n) os hk⟩
    exact ⟨rfl, Kd.R_mono (Kd.R_below ho0 hb) (fun k hk => .inl hk), hB.trans (hb.mono hB.size), Kept.of_below hb _⟩
  · exact absurd h (by simp)


end Go.Proofs.Ytppdaagiofcmkaa.Q
