-- WRITTEN BY print2.py, this session's driver of the kit's printer, with hand-proved contracts among it.
import Derived.Test.YtppdaagiofcmkaaQx0
import Derived.Test.YtppdaagiofcmkaaQx1
import Derived.Test.YtppdaagiofcmkaaQx4
namespace Go.Proofs.Ytppdaagiofcmkaa.Q
open Go.RowKit Go.Proofs.YtppdaagiofcmkaaW.PrintWords Go.Proofs.YtppdaagiofcmkaaW.PrintLast Go.Proofs.YtppdaagiofcmkaaW.PrintMore
attribute [local go_sem] max2_int min2_int max_two min_two max_three min_three max_four min_four   -- for this text's walks alone
set_option linter.unusedVariables false
set_option linter.unusedSimpArgs false

attribute [local go_sem high] eqA31
/-! ### galoistop_wideForms: function 6 -/
def galoistop_wideForms.f (k : Nat)  : Option (Bool) := (quadratic_Forms.f k (-20)).bind fun bt134 => (if bt134.2 = 0 then (if (bt134.1.length : Int) = 2 then (if 1 < (bt134.1.length : Int) then (some (((rd_T31 bt134.1 1).f0) == 2 && (((rd_T31 bt134.1 1).f1) == 2 && (((rd_T31 bt134.1 1).f2) == 3)))) else (none)) else (some false)) else (some false))
theorem galoistop_wideForms.mono : ∀ k, LeO (galoistop_wideForms.f k ) (galoistop_wideForms.f (k + 1) ) := by
  intro  k
  unfold galoistop_wideForms.f
  repeat' first
      | (with_reducible exact quadratic_Forms.mono _ _)
      | (with_reducible exact LeO.refl _)
      | (with_reducible exact LeO.none _)
      | (with_reducible refine LeO.ite ?_ ?_)
      | (with_reducible refine LeO.bind ?_ (fun _ => ?_))
      | exact quadratic_Forms.mono _ _
      | exact LeO.none _
      | refine LeO.ite ?_ ?_
      | refine LeO.bind ?_ (fun _ => ?_)
set_option maxHeartbeats 8000000 in
set_option maxRecDepth 100000 in
theorem galoistop_wideForms.calls (k : Nat)  (r : Bool) (w : World) (h : galoistop_wideForms.f k  = some r) :
    Calls Try.prog 6 #[] w fun e w' => e = .returned (.bool r) ∧ Below w.heap.size w w' := by
  have hu31 := Try.underlying31
  have HB := Aside0.mk (Below.refl w.heap.size w)
  have H : ((quadratic_Forms.f k (-20)).bind fun bt134 => (if bt134.2 = 0 then (if (bt134.1.length : Int) = 2 then (if 1 < (bt134.1.length : Int) then (some (((rd_T31 bt134.1 1).f0) == 2 && (((rd_T31 bt134.1 1).f1) == 2 && (((rd_T31 bt134.1 1).f2) == 3)))) else (none)) else (some false)) else (some false))) = some r := h
  clear h
  replace H := Option.bind_eq_some_iff.mp H
  obtain ⟨⟨t134, t135⟩, A10, H⟩ := H
  replace H : (if t135 = 0 then (if (t134.length : Int) = 2 then (if 1 < (t134.length : Int) then (some (((rd_T31 t134 1).f0) == 2 && (((rd_T31 t134 1).f1) == 2 && (((rd_T31 t134 1).f2) == 3)))) else (none)) else (some false)) else (some false)) = some r := H
  have A1 := Aside0.mk A10
  clear A10
  by_cases c2 : t135 = 0
  · rw [if_pos c2] at H
    have c2b0 : (t135 == 0) = true := beq_iff_eq.mpr c2
    have c2b1 : (t135 != 0) = false := bne_eq_false_iff_eq.mpr c2
    clear c2
    by_cases c3 : (t134.length : Int) = 2
    · rw [if_pos c3] at H
      have c3b0 : ((t134.length : Int) == 2) = true := beq_iff_eq.mpr c3
      have c3b1 : ((t134.length : Int) != 2) = false := bne_eq_false_iff_eq.mpr c3
      clear c3
      by_cases c4 : 1 < (t134.length : Int)
      · rw [if_pos c4] at H
        have c4b0 : decide (1 < (t134.length : Int)) = true := decide_eq_true c4
        have c4b1 : decide (1 < t134.length) = true := decide_eq_true (by omega)
        clear c4
        obtain rfl := Option.some.inj H
        go_enter Try.func6, Try.ntmps6
        go_wp2_with (first | ((with_reducible refine gate_callee (f := 7) rfl ?_); refine goesL_ (some 4) rfl rfl Try.func7 (by kernel_rfl) rfl #[.int .i64 (-20)] rfl (by (try simp only [List.map_toArray, List.map_cons, List.map_nil]); first | done | rfl | (simp only [List.length_drop, List.length_take]; rfl)) ?_; (with_reducible refine (quadratic_Forms.calls k (-20) t134 t135 _ A1.out).mono ?_); rintro e w5 ⟨v136, rfl, ho0, hb⟩; refine ⟨_, rfl, ?_⟩; have n0_ := Aside0.mk (Kd.R_lower ho0 (below_size (by repeat (first | (with_reducible first | exact HB.out | apply below_alloc | apply pw_below_drewN | apply below_drew1) | exact HB.out)))); have n1_ := Aside0.mk (below_step (by repeat (first | (with_reducible first | exact HB.out | apply below_alloc | apply pw_below_drewN | apply below_drew1) | exact HB.out)) hb); clear HB; have HO137 := n0_; have HB := n1_; clear n0_ n1_; (try clear hb); (try clear hb2); (try clear hk); (try clear hi); (try clear ho0); obtain ⟨Ao6, co6, eo6⟩ := Kd.R_slice HO137.out; subst eo6; have p138 : 0 ≤ (1 : Int) := (by omega); have q138 : 1 < (t134.length : Int) := of_decide_eq_true (by first | (with_reducible assumption) | assumption); obtain ⟨ad138, e138, hx138_0, hx138_1, hx138_2⟩ := at_T31 (Kd.R_reads' HO137.out).2.2 1 p138 q138; cases e138; (try simp only [show (1 : Int).toNat = 1 from rfl, Nat.reduceMul, Nat.reduceEqDiff, Go.Addr.add, ↓reduceIte] at hx138_0); (try simp only [show (1 : Int).toNat = 1 from rfl, Nat.reduceMul, Nat.reduceEqDiff, Go.Addr.add, ↓reduceIte] at hx138_1); (try simp only [show (1 : Int).toNat = 1 from rfl, Nat.reduceMul, Nat.reduceEqDiff, Go.Addr.add, ↓reduceIte] at hx138_2); have qi138 : (1 < t134.length) = True := eq_true (by omega); (try rw [show ((1 : Int)).toNat = 1 from rfl] at hx138_0); (try rw [show 1 * 3 = 3 from rfl] at hx138_0); (try rw [show ((1 : Int)).toNat = 1 from rfl] at hx138_1); (try rw [show 1 * 3 = 3 from rfl] at hx138_1); (try rw [show ((1 : Int)).toNat = 1 from rfl] at hx138_2); (try rw [show 1 * 3 = 3 from rfl] at hx138_2); replace p138 := eq_true p138; replace q138 := eq_true q138))
        go_ret
        exact ⟨by first | rfl | (simp [errW_none, errW_some] <;> rfl) | (simp [*, errW_none, errW_some] <;> rfl), by repeat (first | (with_reducible first | exact HB.out | apply below_alloc | apply pw_below_drewN | apply below_drew1) | exact HB.out)⟩
      · rw [if_neg c4] at H
        exact absurd H (by simp)
    · rw [if_neg c3] at H
      have c3b0 : ((t134.length : Int) == 2) = false := beq_eq_false_iff_ne.mpr c3
      have c3b1 : ((t134.length : Int) != 2) = true := bne_iff_ne.mpr c3
      obtain rfl := Option.some.inj H
      go_enter Try.func6, Try.ntmps6
      go_wp2_with (first | ((with_reducible refine gate_callee (f := 7) rfl ?_); refine goesL_ (some 4) rfl rfl Try.func7 (by kernel_rfl) rfl #[.int .i64 (-20)] rfl (by (try simp only [List.map_toArray, List.map_cons, List.map_nil]); first | done | rfl | (simp only [List.length_drop, List.length_take]; rfl)) ?_; (with_reducible refine (quadratic_Forms.calls k (-20) t134 t135 _ A1.out).mono ?_); rintro e w7 ⟨v136, rfl, ho0, hb⟩; refine ⟨_, rfl, ?_⟩; have n0_ := Aside0.mk (Kd.R_lower ho0 (below_size (by repeat (first | (with_reducible first | exact HB.out | apply below_alloc | apply pw_below_drewN | apply below_drew1) | exact HB.out)))); have n1_ := Aside0.mk (below_step (by repeat (first | (with_reducible first | exact HB.out | apply below_alloc | apply pw_below_drewN | apply below_drew1) | exact HB.out)) hb); clear HB; have HO137 := n0_; have HB := n1_; clear n0_ n1_; (try clear hb); (try clear hb2); (try clear hk); (try clear hi); (try clear ho0); obtain ⟨Ao8, co8, eo8⟩ := Kd.R_slice HO137.out; subst eo8))
      go_ret
      exact ⟨by first | rfl | (simp [errW_none, errW_some] <;> rfl) | (simp [*, errW_none, errW_some] <;> rfl), by repeat (first | (with_reducible first | exact HB.out | apply below_alloc | apply pw_below_drewN | apply below_drew1) | exact HB.out)⟩
  · rw [if_neg c2] at H
    have c2b0 : (t135 == 0) = false := beq_eq_false_iff_ne.mpr c2
    have c2b1 : (t135 != 0) = true := bne_iff_ne.mpr c2
    obtain rfl := Option.some.inj H
    go_enter Try.func6, Try.ntmps6
    go_wp2_with (first | ((with_reducible refine gate_callee (f := 7) rfl ?_); refine goesL_ (some 4) rfl rfl Try.func7 (by kernel_rfl) rfl #[.int .i64 (-20)] rfl (by (try simp only [List.map_toArray, List.map_cons, List.map_nil]); first | done | rfl | (simp only [List.length_drop, List.length_take]; rfl)) ?_; (with_reducible refine (quadratic_Forms.calls k (-20) t134 t135 _ A1.out).mono ?_); rintro e w9 ⟨v136, rfl, ho0, hb⟩; refine ⟨_, rfl, ?_⟩; have n0_ := Aside0.mk (Kd.R_lower ho0 (below_size (by repeat (first | (with_reducible first | exact HB.out | apply below_alloc | apply pw_below_drewN | apply below_drew1) | exact HB.out)))); have n1_ := Aside0.mk (below_step (by repeat (first | (with_reducible first | exact HB.out | apply below_alloc | apply pw_below_drewN | apply below_drew1) | exact HB.out)) hb); clear HB; have HO137 := n0_; have HB := n1_; clear n0_ n1_; (try clear hb); (try clear hb2); (try clear hk); (try clear hi); (try clear ho0)))
    go_ret
    exact ⟨by first | rfl | (simp [errW_none, errW_some] <;> rfl) | (simp [*, errW_none, errW_some] <;> rfl), by repeat (first | (with_reducible first | exact HB.out | apply below_alloc | apply pw_below_drewN | apply below_drew1) | exact HB.out)⟩

/-! ### residue_bad_1: function 44 -/
def residue_bad_1.f (a0 : Int) : Option (Bool) := if a0 < 1 then (some true) else (some (decide (a0 > 2147483647)))
set_option maxHeartbeats 8000000 in
set_option maxRecDepth 100000 in
theorem residue_bad_1.calls (a0 : Int) (r : Bool) (w : World) (h : residue_bad_1.f a0 = some r) :
    Calls Try.prog 44 #[.int .i64 a0] w fun e w' => e = .returned (.bool r) ∧ Drawn0 w w' := by
  have H : (if a0 < 1 then (some true) else (some (decide (a0 > 2147483647)))) = some r := h
  clear h
  by_cases c2 : a0 < 1
  · rw [if_pos c2] at H
    have c2b0 : decide (a0 < 1) = true := decide_eq_true c2
    clear c2
    obtain rfl := Option.some.inj H
    go_enter Try.func44, Try.ntmps44
    go_wp2
    go_ret
    exact ⟨by first | rfl | (simp; done) | (simp [*]; done), by repeat (first | exact Drawn0.refl _ | apply Drawn0.step)⟩
  · rw [if_neg c2] at H
    have c2b0 : decide (a0 < 1) = false := decide_eq_false c2
    clear c2
    obtain rfl := Option.some.inj H
    go_enter Try.func44, Try.ntmps44
    go_wp2
    go_ret
    exact ⟨by first | rfl | (simp; done) | (simp [*]; done), by repeat (first | exact Drawn0.refl _ | apply Drawn0.step)⟩

/-! ### residue_bad: function 36 -/
def badp (n : Int) : Bool := decide (n < 1) || decide (n > 2147483647)
def residue_bad.i (l : List Int) : Nat → Int → Option Int
  | 0, _ => none
  | k + 1, x => if x < (l.length : Int) then (if 0 ≤ x then (if badp (rd l x) = true then some x else residue_bad.i l k (wrap64 (x + 1))) else none) else some (-1)
theorem badp_calls (a0 : Int) (w : World) : Calls Try.prog 44 #[.int .i64 a0] w fun e w' => e = .returned (.bool (badp a0)) ∧ Drawn0 w w' :=
  residue_bad_1.calls a0 (badp a0) w (by unfold residue_bad_1.f badp; by_cases h : a0 < 1 <;> simp [h])
set_option maxHeartbeats 8000000 in
set_option maxRecDepth 100000 in
theorem residue_bad.index (k : Nat) (A0 : Option Addr) (c0 : Nat) (l0 : List Int) (r : Int) (w : World) (hr0 : Kd.C (Kd.int .i64) w A0 l0.length l0) (hc0 : l0.length ≤ c0) (h : residue_bad.i l0 k 0 = some r) :
    Calls Try.prog 46 #[.slice A0 l0.length c0, .func (.func 44) #[] #[]] w fun e w' => e = .returned (.int .i64 r) ∧ Drawn0 w w' := by
  have HR0 := Aside0.mk hr0
  have HC0 := Aside0.mk hc0
  clear hr0 hc0
  have H' := Aside0.mk h
  clear h
  go_enter Try.func46, Try.ntmps46
  go_wp2
  go_loopg [8] k (fun kq v8 w' => ∃ (x : Int), v8 = .int .i64 x ∧ Aside0 (residue_bad.i l0 kq x = some r) ∧ Aside0 (kq ≤ k) ∧ Drawn0 w w')
  case atStart => exact ⟨(0), (by first | rfl | (simp; done) | (simp [*]; done)), H', ⟨Nat.le_refl _⟩, by repeat (first | exact Drawn0.refl _ | apply Drawn0.step)⟩
  case round =>
    clear H'
    obtain ⟨x, rfl, HA, HK1, ⟨m1, rfl⟩⟩ := hrel
    cases gk with
    | zero => exact absurd HA.out (by simp [residue_bad.i])
    | succ k1 =>
      have H := HA.out
      clear HA
      simp only [residue_bad.i] at H
      by_cases c2 : x < (l0.length : Int)
      · rw [if_pos c2] at H
        have c2b0 : decide (x < (l0.length : Int)) = true := decide_eq_true c2
        clear c2
        by_cases c3 : 0 ≤ x
        · rw [if_pos c3] at H
          have c3b0 : decide (0 ≤ x) = true := decide_eq_true c3
          clear c3
          have p110 : 0 ≤ (x : Int) := of_decide_eq_true (by assumption)
          have q110 : x < (l0.length : Int) := of_decide_eq_true (by assumption)
          obtain ⟨ad110, e110, hx110_0⟩ := Kd.at_int HR0.out x p110 q110
          cases e110
          replace p110 := eq_true p110
          replace q110 := eq_true q110
          by_cases c5 : badp (rd l0 x) = true
          · rw [if_pos c5] at H
            obtain rfl := Option.some.inj H
            go_wp2_with (go_at_call 44; (with_reducible refine (badp_calls (rd l0 x) _).mono ?_); rintro e w' ⟨rfl, ⟨nd, rfl⟩⟩)
            go_ret
            exact ⟨by first | rfl | (simp; done) | (simp [*]; done), by repeat (first | exact Drawn0.refl _ | apply Drawn0.step)⟩
          · rw [if_neg c5] at H
            replace c5 : badp (rd l0 x) = false := by simpa using c5
            have H' := Aside0.mk H
            clear H
            go_wp2_with (go_at_call 44; (with_reducible refine (badp_calls (rd l0 x) _).mono ?_); rintro e w' ⟨rfl, ⟨nd, rfl⟩⟩)
            go_roundg k1
            case measure => have := HK1.out; omega
            case rel => exact ⟨(wrap64 (x + 1)), (by first | rfl | (simp; done) | (simp [*]; done)), H', ⟨by have := HK1.out; omega⟩, by repeat (first | exact Drawn0.refl _ | apply Drawn0.step)⟩
        · rw [if_neg c3] at H
          exact absurd H (by simp)
      · rw [if_neg c2] at H
        have c2b0 : decide (x < (l0.length : Int)) = false := decide_eq_false c2
        clear c2
        obtain rfl := Option.some.inj H
        go_wp2
        go_ret
        exact ⟨by first | rfl | (simp; done) | (simp [*]; done), by repeat (first | exact Drawn0.refl _ | apply Drawn0.step)⟩
theorem wrap_up {x : Int} {n : Nat} (h0 : 0 ≤ x) (h : x < (n : Int)) (hn : n ≤ 9223372036854775807) : wrap64 (x + 1) = x + 1 := by
  unfold wrap64
  omega
theorem residue_bad.i_any (l : List Int) (hn : l.length ≤ 9223372036854775807) : ∀ (d k : Nat) (x : Nat), x + d = l.length → d < k →
    ∃ r, residue_bad.i l k (x : Int) = some r ∧ (decide (r ≥ 0) = (l.drop x).any badp) := by
  intro d
  induction d with
  | zero =>
    intro k x hx hk
    obtain ⟨k, rfl⟩ : ∃ m, k = m + 1 := ⟨k - 1, by omega⟩
    refine ⟨-1, ?_, ?_⟩
    · simp only [residue_bad.i]; rw [if_neg (by omega)]
    · rw [List.drop_of_length_le (by omega)]; simp
  | succ d ih =>
    intro k x hx hk
    obtain ⟨k, rfl⟩ : ∃ m, k = m + 1 := ⟨k - 1, by omega⟩
    have hd : l.drop x = rd l x :: l.drop (x + 1) := by
      rw [List.drop_eq_getElem_cons (by omega)]
      unfold rd
      simp [List.getD_eq_getElem?_getD, List.getElem?_eq_getElem (show x < l.length from by omega)]
    simp only [residue_bad.i]
    rw [if_pos (by omega), if_pos (by omega), hd, List.any_cons]
    by_cases hb : badp (rd l x) = true
    · rw [if_pos hb, hb]
      exact ⟨x, rfl, by simp⟩
    · rw [if_neg hb, wrap_up (by omega) (show (x : Int) < (l.length : Int) from by omega) hn]
      replace hb : badp (rd l x) = false := by simpa using hb
      obtain ⟨r, h1, h2⟩ := ih k (x + 1) (by omega) (by omega)
      exact ⟨r, h1, by rw [hb, Bool.false_or]; exact h2⟩
set_option maxHeartbeats 8000000 in
set_option maxRecDepth 100000 in
theorem residue_bad.contains (A0 : Option Addr) (c0 : Nat) (l0 : List Int) (w : World) (hr0 : Kd.C (Kd.int .i64) w A0 l0.length l0) (hc0 : l0.length ≤ c0) :
    Calls Try.prog 43 #[.slice A0 l0.length c0, .func (.func 44) #[] #[]] w fun e w' => e = .returned (.bool (l0.any badp)) ∧ Drawn0 w w' := by
  obtain ⟨r, h1, h2⟩ := residue_bad.i_any l0 hr0.2.1 l0.length (l0.length + 1) 0 (by omega) (by omega)
  rw [List.drop_zero] at h2
  have H1 := Aside0.mk (residue_bad.index (l0.length + 1) A0 c0 l0 r w hr0 hc0 h1)
  clear hr0 hc0 h1
  generalize l0.any badp = b at h2 ⊢
  have h3 : (r ≥ 0) = (b = true) := by rw [← h2]; simp
  go_enter Try.func43, Try.ntmps43
  go_wp2_with (go_at_call 46; (with_reducible refine H1.out.mono ?_); rintro e w' ⟨rfl, ⟨nd, rfl⟩⟩)
  go_ret
  exact ⟨by first | rfl | (simp; done) | (simp [*]; done), by repeat (first | exact Drawn0.refl _ | apply Drawn0.step)⟩
def residue_bad.f (l0 : List Int) : Option Bool := some (l0.any badp)
theorem residue_bad.calls (A0 : Option Addr) (c0 : Nat) (l0 : List Int) (r : Bool) (w : World) (hr0 : Kd.C (Kd.int .i64) w A0 l0.length l0) (hc0 : l0.length ≤ c0) (h : residue_bad.f l0 = some r) :
    Calls Try.prog 36 #[.slice A0 l0.length c0] w fun e w' => e = .returned (.bool r) ∧ Drawn0 w w' := by
  have H := Aside0.mk (residue_bad.contains A0 c0 l0 w hr0 hc0)
  obtain rfl := Option.some.inj h
  generalize l0.any badp = b at H
  clear hr0 hc0
  go_enter Try.func36, Try.ntmps36
  go_wp2_with (go_at_call 43; (with_reducible refine H.out.mono ?_); rintro e w' ⟨rfl, ⟨nd, rfl⟩⟩)
  go_ret
  exact ⟨by first | rfl | (simp; done) | (simp [*]; done), by repeat (first | exact Drawn0.refl _ | apply Drawn0.step)⟩


/-! ### residue_mod: function 37 -/
def residue_mod.f (a0 : Int) (a1 : Int) : Option (Int) := if a1 = 0 then (none) else (if (Int.tmod a0 a1) < 0 then (some (wrap64 ((Int.tmod a0 a1) + a1))) else (some (Int.tmod a0 a1)))
set_option maxHeartbeats 8000000 in
set_option maxRecDepth 100000 in
theorem residue_mod.calls (a0 : Int) (a1 : Int) (r : Int) (w : World) (h : residue_mod.f a0 a1 = some r) :
    Calls Try.prog 37 #[.int .i64 a0, .int .i64 a1] w fun e w' => e = .returned (.int .i64 r) ∧ Drawn0 w w' := by
  have H : (if a1 = 0 then (none) else (if (Int.tmod a0 a1) < 0 then (some (wrap64 ((Int.tmod a0 a1) + a1))) else (some (Int.tmod a0 a1)))) = some r := h
  clear h
  by_cases c3 : a1 = 0
  · rw [if_pos c3] at H
    exact absurd H (by simp)
  · rw [if_neg c3] at H
    have c3b0 : (a1 == 0) = false := beq_eq_false_iff_ne.mpr c3
    have c3b1 : (a1 != 0) = true := bne_iff_ne.mpr c3
    by_cases c4 : (Int.tmod a0 a1) < 0
    · rw [if_pos c4] at H
      have c4b0 : decide ((Int.tmod a0 a1) < 0) = true := decide_eq_true c4
      clear c4
      obtain rfl := Option.some.inj H
      go_enter Try.func37, Try.ntmps37
      go_wp2
      go_ret
      exact ⟨by first | rfl | (simp; done) | (simp [*]; done), by repeat (first | exact Drawn0.refl _ | apply Drawn0.step)⟩
    · rw [if_neg c4] at H
      have c4b0 : decide ((Int.tmod a0 a1) < 0) = false := decide_eq_false c4
      clear c4
      obtain rfl := Option.some.inj H
      go_enter Try.func37, Try.ntmps37
      go_wp2
      go_ret
      exact ⟨by first | rfl | (simp; done) | (simp [*]; done), by repeat (first | exact Drawn0.refl _ | apply Drawn0.step)⟩

/-! ### residue_Jacobi: function 25 -/
mutual
def residue_Jacobi.j0 : Nat → Int → Int → Bool → Option (Int × Int)
  | 0, _, _, _ => none
  | k + 1, x0, x1, x14 => if x14 = true then (some (0, 3)) else ((residue_mod.f x0 x1).bind fun t143 => (residue_Jacobi.l0 k t143 x1 1))
def residue_Jacobi.l0 : Nat → Int → Int → Int → Option (Int × Int)
  | 0, _, _, _ => none
  | k + 1, x0, x1, x6 => if x0 > 0 then (residue_Jacobi.l1 k x0 x1 x6) else (if x1 > 1 then (some (0, 0)) else (some (x6, 0)))
def residue_Jacobi.l1 : Nat → Int → Int → Int → Option (Int × Int)
  | 0, _, _, _ => none
  | k + 1, x0, x1, x6 => if (Int.tmod x0 2) = 0 then (if (Int.tmod x1 8) = 3 then (residue_Jacobi.l1 k (wrap64 (Int.tdiv x0 2)) x1 (wrap64 (-x6))) else (if (Int.tmod x1 8) = 5 then (residue_Jacobi.l1 k (wrap64 (Int.tdiv x0 2)) x1 (wrap64 (-x6))) else (residue_Jacobi.l1 k (wrap64 (Int.tdiv x0 2)) x1 x6))) else (if (Int.tmod x0 4) = 3 then (if (Int.tmod x1 4) = 3 then (if x0 = 0 then (none) else (residue_Jacobi.l0 k (Int.tmod x1 x0) x0 (wrap64 (-x6)))) else (if x0 = 0 then (none) else (residue_Jacobi.l0 k (Int.tmod x1 x0) x0 x6))) else (if x0 = 0 then (none) else (residue_Jacobi.l0 k (Int.tmod x1 x0) x0 x6)))
end
def residue_Jacobi.f (k : Nat) (a0 : Int) (a1 : Int) : Option (Int × Int) := (residue_bad.f (([a1] : List Int))).bind fun t142 => (if t142 = true then (residue_Jacobi.j0 k a0 a1 true) else (residue_Jacobi.j0 k a0 a1 ((Int.tmod a1 2) == 0)))
theorem residue_Jacobi.mono_l : ∀ k, (∀ y0 y1 y2, LeO (residue_Jacobi.j0 k y0 y1 y2) (residue_Jacobi.j0 (k + 1) y0 y1 y2)) ∧ (∀ y0 y1 y2, LeO (residue_Jacobi.l0 k y0 y1 y2) (residue_Jacobi.l0 (k + 1) y0 y1 y2)) ∧ (∀ y0 y1 y2, LeO (residue_Jacobi.l1 k y0 y1 y2) (residue_Jacobi.l1 (k + 1) y0 y1 y2))
  | 0 => ⟨fun _ _ _ r h => by simp [residue_Jacobi.j0] at h, fun _ _ _ r h => by simp [residue_Jacobi.l0] at h, fun _ _ _ r h => by simp [residue_Jacobi.l1] at h⟩
  | k + 1 => by
    obtain ⟨ih0, ih1, ih2⟩ := residue_Jacobi.mono_l k
    refine ⟨?_, ?_, ?_⟩
    · intro y0 y1 y2
      unfold residue_Jacobi.j0
      repeat' first
      | (with_reducible exact ih0 _ _ _)
      | (with_reducible exact ih1 _ _ _)
      | (with_reducible exact ih2 _ _ _)
      | (with_reducible exact LeO.refl _)
      | (with_reducible exact LeO.none _)
      | (with_reducible refine LeO.ite ?_ ?_)
      | (with_reducible refine LeO.bind ?_ (fun _ => ?_))
      | exact ih0 _ _ _
      | exact ih1 _ _ _
      | exact ih2 _ _ _
      | exact LeO.none _
      | refine LeO.ite ?_ ?_
      | refine LeO.bind ?_ (fun _ => ?_)
    · intro y0 y1 y2
      unfold residue_Jacobi.l0
      repeat' first
      | (with_reducible exact ih0 _ _ _)
      | (with_reducible exact ih1 _ _ _)
      | (with_reducible exact ih2 _ _ _)
      | (with_reducible exact LeO.refl _)
      | (with_reducible exact LeO.none _)
      | (with_reducible refine LeO.ite ?_ ?_)
      | (with_reducible refine LeO.bind ?_ (fun _ => ?_))
      | exact ih0 _ _ _
      | exact ih1 _ _ _
      | exact ih2 _ _ _
      | exact LeO.none _
      | refine LeO.ite ?_ ?_
      | refine LeO.bind ?_ (fun _ => ?_)
    · intro y0 y1 y2
      unfold residue_Jacobi.l1
      repeat' first
      | (with_reducible exact ih0 _ _ _)
      | (with_reducible exact ih1 _ _ _)
      | (with_reducible exact ih2 _ _ _)
      | (with_reducible exact LeO.refl _)
      | (with_reducible exact LeO.none _)
      | (with_reducible refine LeO.ite ?_ ?_)
      | (with_reducible refine LeO.bind ?_ (fun _ => ?_))
      | exact ih0 _ _ _
      | exact ih1 _ _ _
      | exact ih2 _ _ _
      | exact LeO.none _
      | refine LeO.ite ?_ ?_
      | refine LeO.bind ?_ (fun _ => ?_)
theorem residue_Jacobi.mono : ∀ a0 a1 k, LeO (residue_Jacobi.f k a0 a1) (residue_Jacobi.f (k + 1) a0 a1) := by
  intro a0 a1 k
  obtain ⟨ih0, ih1, ih2⟩ := residue_Jacobi.mono_l k
  unfold residue_Jacobi.f
  repeat' first
      | (with_reducible exact ih0 _ _ _)
      | (with_reducible exact ih1 _ _ _)
      | (with_reducible exact ih2 _ _ _)
      | (with_reducible exact LeO.refl _)
      | (with_reducible exact LeO.none _)
      | (with_reducible refine LeO.ite ?_ ?_)
      | (with_reducible refine LeO.bind ?_ (fun _ => ?_))
      | exact ih0 _ _ _
      | exact ih1 _ _ _
      | exact ih2 _ _ _
      | exact LeO.none _
      | refine LeO.ite ?_ ?_
      | refine LeO.bind ?_ (fun _ => ?_)
set_option maxHeartbeats 8000000 in
set_option maxRecDepth 100000 in
theorem residue_Jacobi.calls (k : Nat) (a0 : Int) (a1 : Int) (r1 : Int) (r2 : Int) (w : World) (h : residue_Jacobi.f k a0 a1 = some (r1, r2)) :
    Calls Try.prog 25 #[.int .i64 a0, .int .i64 a1] w fun e w' => e = .returned (.tuple #[.int .i64 r1, .int .i64 r2]) ∧ Below w.heap.size w w' := by
  have HB := Aside0.mk (Below.refl w.heap.size w)
  have H : ((residue_bad.f (([a1] : List Int))).bind fun t142 => (if t142 = true then (residue_Jacobi.j0 k a0 a1 true) else (residue_Jacobi.j0 k a0 a1 ((Int.tmod a1 2) == 0)))) = some (r1, r2) := h
  clear h
  have HC3 := Aside0.mk H
  clear H
  go_enter Try.func25, Try.ntmps25
  go_upto_region 1 with (fail)
  go_cut [14] (fun v14 wc => ∃ (kq : Nat) (x14_2 : Bool), v14 = .bool x14_2 ∧ Aside0 (residue_Jacobi.j0 kq a0 a1 x14_2 = some (r1, r2)) ∧ Aside0 (kq ≤ k) ∧ Aside0 (Below w.heap.size w wc))
  case first =>
    have H := HC3.out
    clear HC3
    obtain ⟨y139, hy139⟩ : ∃ y_ : List Int, y_ = (([a1] : List Int)) := ⟨_, rfl⟩
    replace H : ((residue_bad.f y139).bind fun t142 => (if t142 = true then (residue_Jacobi.j0 k a0 a1 true) else (residue_Jacobi.j0 k a0 a1 ((Int.tmod a1 2) == 0)))) = some (r1, r2) := by first | (rw [hy139]; with_reducible exact H) | (have H2_ := (Option.bind_some _ _).symm.trans H; rw [hy139]; with_reducible exact H2_) | (have H2_ := (Option.bind_some _ _).symm.trans H; with_reducible exact H2_) | with_reducible exact H | (rw [hy139]; exact H) | exact H
    have Ny139 := Aside0.mk hy139
    clear hy139
    replace H := Option.bind_eq_some_iff.mp H
    obtain ⟨t142, A40, H⟩ := H
    replace H : (if t142 = true then (residue_Jacobi.j0 k a0 a1 true) else (residue_Jacobi.j0 k a0 a1 ((Int.tmod a1 2) == 0))) = some (r1, r2) := H
    have A4 := Aside0.mk A40
    clear A40
    by_cases c5 : t142 = true
    · subst c5
      have H1 : (residue_Jacobi.j0 k a0 a1 true) = some (r1, r2) := by rw [if_pos rfl] at H; exact H
      clear H
      have H := H1
      clear H1
      have H' := Aside0.mk H
      clear H
      go_wp2_with (first | ((with_reducible refine gate_dst (N := 8) rfl ?_); refine Kd.R_lit (Kd.int .i64) _ 3 ?hg (N := 8) ?hd (xs := ([a1] : List Int)) (inner := [.int .i64 a1]) (ok := fun _ => True) (okp := fun _ => True) ?hr ?hp (fun _ hk => hk) trivial (Below.refl _ _) (Nat.le_refl _) (by simp) ?_; (case hd => rfl); (case hg => rfl); (case hr => first | (go_simp; done) | (go_simp; rfl)); (case hp => exact (Reps.one (show Kd.M (Kd.int .i64) _ _ _ a1 [.int .i64 a1] from rfl) (Reps.none _ _))); intro v140 w6 ho7 hb hg_ hnew_; clear hg_ hnew_; (first | rw [← Ny139.out] at ho7 | (simp only [Int.reduceToNat] at ho7; rw [← Ny139.out] at ho7)); have n0_ := Aside0.mk (Kd.R_lower ho7 (below_size (by repeat (first | (with_reducible first | exact HB.out | apply below_alloc | apply pw_below_drewN | apply below_drew1) | exact HB.out)))); have n1_ := Aside0.mk (below_step (by repeat (first | (with_reducible first | exact HB.out | apply below_alloc | apply pw_below_drewN | apply below_drew1) | exact HB.out)) hb); clear HB; have HO141 := n0_; have HB := n1_; clear n0_ n1_; clear hb ho7; obtain ⟨Ao8, co8, eo8⟩ := Kd.R_slice HO141.out; subst eo8) | ((with_reducible refine gate_callee (f := 36) rfl ?_); refine goesL_ (some 9) rfl rfl Try.func36 (by kernel_rfl) rfl #[.slice Ao8 y139.length co8] rfl (by (try simp only [List.map_toArray, List.map_cons, List.map_nil]); first | done | rfl | (simp only [List.length_drop, List.length_take]; rfl)) ?_; (with_reducible refine (residue_bad.calls _ _ y139 true _ ?side1 ?side2 A4.out).mono ?_); (case side1 => repeat (first | exact (Kd.R_reads' HO141.out).2.2 | (with_reducible refine Kd.C_alloc ?_ _) | (with_reducible refine Kd.C_drewN ?_ _) | (with_reducible refine Kd.C_drew ?_))); (case side2 => exact (Kd.R_reads' HO141.out).2.1); rintro e w' ⟨rfl, ⟨nd, rfl⟩⟩; refine ⟨_, rfl, ?_⟩))
      go_meet
      case rel => exact ⟨_, (true), (by first | rfl | (simp; done) | (simp [*]; done)), H', ⟨by first | omega | exact Nat.le_refl _⟩, ⟨by repeat (first | (with_reducible first | exact HB.out | apply below_alloc | apply pw_below_drewN | apply below_drew1) | exact HB.out)⟩⟩
    · replace c5 := Bool.eq_false_iff.mpr c5
      subst c5
      have H1 : (residue_Jacobi.j0 k a0 a1 ((Int.tmod a1 2) == 0)) = some (r1, r2) := by rw [if_neg (show ¬ (false = true) by decide)] at H; exact H
      clear H
      have H := H1
      clear H1
      have H' := Aside0.mk H
      clear H
      go_wp2_with (first | ((with_reducible refine gate_dst (N := 8) rfl ?_); refine Kd.R_lit (Kd.int .i64) _ 3 ?hg (N := 8) ?hd (xs := ([a1] : List Int)) (inner := [.int .i64 a1]) (ok := fun _ => True) (okp := fun _ => True) ?hr ?hp (fun _ hk => hk) trivial (Below.refl _ _) (Nat.le_refl _) (by simp) ?_; (case hd => rfl); (case hg => rfl); (case hr => first | (go_simp; done) | (go_simp; rfl)); (case hp => exact (Reps.one (show Kd.M (Kd.int .i64) _ _ _ a1 [.int .i64 a1] from rfl) (Reps.none _ _))); intro v140 w9 ho10 hb hg_ hnew_; clear hg_ hnew_; (first | rw [← Ny139.out] at ho10 | (simp only [Int.reduceToNat] at ho10; rw [← Ny139.out] at ho10)); have n0_ := Aside0.mk (Kd.R_lower ho10 (below_size (by repeat (first | (with_reducible first | exact HB.out | apply below_alloc | apply pw_below_drewN | apply below_drew1) | exact HB.out)))); have n1_ := Aside0.mk (below_step (by repeat (first | (with_reducible first | exact HB.out | apply below_alloc | apply pw_below_drewN | apply below_drew1) | exact HB.out)) hb); clear HB; have HO141 := n0_; have HB := n1_; clear n0_ n1_; clear hb ho10; obtain ⟨Ao11, co11, eo11⟩ := Kd.R_slice HO141.out; subst eo11) | ((with_reducible refine gate_callee (f := 36) rfl ?_); refine goesL_ (some 9) rfl rfl Try.func36 (by kernel_rfl) rfl #[.slice Ao11 y139.length co11] rfl (by (try simp only [List.map_toArray, List.map_cons, List.map_nil]); first | done | rfl | (simp only [List.length_drop, List.length_take]; rfl)) ?_; (with_reducible refine (residue_bad.calls _ _ y139 false _ ?side1 ?side2 A4.out).mono ?_); (case side1 => repeat (first | exact (Kd.R_reads' HO141.out).2.2 | (with_reducible refine Kd.C_alloc ?_ _) | (with_reducible refine Kd.C_drewN ?_ _) | (with_reducible refine Kd.C_drew ?_))); (case side2 => exact (Kd.R_reads' HO141.out).2.1); rintro e w' ⟨rfl, ⟨nd, rfl⟩⟩; refine ⟨_, rfl, ?_⟩))
      go_meet
      case rel => exact ⟨_, (((Int.tmod a1 2) == 0)), (by first | rfl | (simp; done) | (simp [*]; done)), H', ⟨by first | omega | exact Nat.le_refl _⟩, ⟨by repeat (first | (with_reducible first | exact HB.out | apply below_alloc | apply pw_below_drewN | apply below_drew1) | exact HB.out)⟩⟩
  case rest =>
    clear HC3
    try clear c2
    try clear p2
    try clear c3
    try clear c5
    obtain ⟨kq, x14_2, rfl, HA, HJ2, HB⟩ := hcut
    cases kq with
    | zero => exact absurd HA.out (by simp [residue_Jacobi.j0])
    | succ kj2 =>
      have H := HA.out
      clear HA
      simp only [residue_Jacobi.j0] at H
      by_cases c12 : x14_2 = true
      · subst c12
        have H1 : (some (0, 3)) = some (r1, r2) := by rw [if_pos rfl] at H; exact H
        clear H
        have H := H1
        clear H1
        simp only [Option.some.injEq, Prod.mk.injEq] at H
        obtain ⟨rfl, rfl⟩ := H
        go_wp2
        go_ret2
        exact ⟨by first | rfl | (simp [errW_none, errW_some] <;> rfl) | (simp [*, errW_none, errW_some] <;> rfl), by repeat (first | (with_reducible first | exact HB.out | apply below_alloc | apply pw_below_drewN | apply below_drew1) | exact HB.out)⟩
      · replace c12 := Bool.eq_false_iff.mpr c12
        subst c12
        have H1 : ((residue_mod.f a0 a1).bind fun t143 => (residue_Jacobi.l0 kj2 t143 a1 1)) = some (r1, r2) := by rw [if_neg (show ¬ (false = true) by decide)] at H; exact H
        clear H
        have H := H1
        clear H1
        replace H := Option.bind_eq_some_iff.mp H
        obtain ⟨t143, A130, H⟩ := H
        replace H : (residue_Jacobi.l0 kj2 t143 a1 1) = some (r1, r2) := H
        have A13 := Aside0.mk A130
        clear A130
        have H' := Aside0.mk H
        clear H
        go_wp2_with (first | ((with_reducible refine gate_callee (f := 37) rfl ?_); refine goesL_ (some 17) rfl rfl Try.func37 (by kernel_rfl) rfl #[.int .i64 a0, .int .i64 a1] rfl (by (try simp only [List.map_toArray, List.map_cons, List.map_nil]); first | done | rfl | (simp only [List.length_drop, List.length_take]; rfl)) ?_; (with_reducible refine (residue_mod.calls a0 a1 t143 _ A13.out).mono ?_); rintro e w' ⟨rfl, ⟨nd, rfl⟩⟩; refine ⟨_, rfl, ?_⟩))
        go_loopg [0, 1, 6] kj2 (fun kq v0 v1 v6 w' => ∃ (x0_2 : Int) (x1_2 : Int) (x6_2 : Int), v0 = .int .i64 x0_2 ∧ v1 = .int .i64 x1_2 ∧ v6 = .int .i64 x6_2 ∧ Aside0 (residue_Jacobi.l0 kq x0_2 x1_2 x6_2 = some (r1, r2)) ∧ Aside0 (kq ≤ kj2) ∧ Aside0 (Below w.heap.size w w'))
        case atStart => exact ⟨(t143), (a1), (1), (by first | rfl | (simp; done) | (simp [*]; done)), (by first | rfl | (simp; done) | (simp [*]; done)), (by first | rfl | (simp; done) | (simp [*]; done)), H', ⟨Nat.le_refl _⟩, ⟨by repeat (first | (with_reducible first | exact HB.out | apply below_alloc | apply pw_below_drewN | apply below_drew1) | exact HB.out)⟩⟩
        case round =>
          clear H'
          try clear c1
          try clear c2
          try clear p2
          try clear c3
          try clear c5
          try clear c12
          try clear p2
          obtain ⟨x0_2, x1_2, x6_2, rfl, rfl, rfl, HA, HK2, HB⟩ := hrel
          cases gk with
          | zero => exact absurd HA.out (by simp [residue_Jacobi.l0])
          | succ k2 =>
            have H := HA.out
            clear HA
            simp only [residue_Jacobi.l0] at H
            by_cases c14 : x0_2 > 0
            · rw [if_pos c14] at H
              have c14b0 : decide (0 < x0_2) = true := decide_eq_true c14
              clear c14
              have H' := Aside0.mk H
              clear H
              go_wp2
              go_loopg [0, 6] k2 (fun kq v0 v6 w' => ∃ (x0_3 : Int) (x6_3 : Int), v0 = .int .i64 x0_3 ∧ v6 = .int .i64 x6_3 ∧ Aside0 (residue_Jacobi.l1 kq x0_3 x1_2 x6_3 = some (r1, r2)) ∧ Aside0 (kq ≤ k2) ∧ Aside0 (Below w.heap.size w w'))
              case atStart => exact ⟨(x0_2), (x6_2), (by first | rfl | (simp; done) | (simp [*]; done)), (by first | rfl | (simp; done) | (simp [*]; done)), H', ⟨Nat.le_refl _⟩, ⟨by repeat (first | (with_reducible first | exact HB.out | apply below_alloc | apply pw_below_drewN | apply below_drew1) | exact HB.out)⟩⟩
              case round =>
                clear H'
                try clear c1
                try clear c2
                try clear p2
                try clear c3
                try clear c5
                try clear c12
                try clear c14
                try clear c14b0
                try clear p2
                obtain ⟨x0_3, x6_3, rfl, rfl, HA, HK3, HB⟩ := hrel
                cases gk with
                | zero => exact absurd HA.out (by simp [residue_Jacobi.l1])
                | succ k3 =>
                  have H := HA.out
                  clear HA
                  simp only [residue_Jacobi.l1] at H
                  by_cases c15 : (Int.tmod x0_3 2) = 0
                  · rw [if_pos c15] at H
                    have c15b0 : ((Int.tmod x0_3 2) == 0) = true := beq_iff_eq.mpr c15
                    have c15b1 : ((Int.tmod x0_3 2) != 0) = false := bne_eq_false_iff_eq.mpr c15
                    clear c15
                    by_cases c16 : (Int.tmod x1_2 8) = 3
                    · rw [if_pos c16] at H
                      have c16b0 : ((Int.tmod x1_2 8) == 3) = true := beq_iff_eq.mpr c16
                      have c16b1 : ((Int.tmod x1_2 8) != 3) = false := bne_eq_false_iff_eq.mpr c16
                      clear c16
                      have H' := Aside0.mk H
                      clear H
                      go_wp2
                      go_roundg k3
                      case measure => have := HJ2.out; have := HK2.out; have := HK3.out; omega
                      case rel => exact ⟨(wrap64 (Int.tdiv x0_3 2)), (wrap64 (-x6_3)), (by first | rfl | (simp; done) | (simp [*]; done)), (by first | rfl | (simp; done) | (simp [*]; done)), H', ⟨by have := HJ2.out; have := HK2.out; have := HK3.out; omega⟩, ⟨by repeat (first | (with_reducible first | exact HB.out | apply below_alloc | apply pw_below_drewN | apply below_drew1) | exact HB.out)⟩⟩
                    · rw [if_neg c16] at H
                      have c16b0 : ((Int.tmod x1_2 8) == 3) = false := beq_eq_false_iff_ne.mpr c16
                      have c16b1 : ((Int.tmod x1_2 8) != 3) = true := bne_iff_ne.mpr c16
                      by_cases c17 : (Int.tmod x1_2 8) = 5
                      · rw [if_pos c17] at H
                        have c17b0 : ((Int.tmod x1_2 8) == 5) = true := beq_iff_eq.mpr c17
                        have c17b1 : ((Int.tmod x1_2 8) != 5) = false := bne_eq_false_iff_eq.mpr c17
                        clear c17
                        have H' := Aside0.mk H
                        clear H
                        go_wp2
                        go_roundg k3
                        case measure => have := HJ2.out; have := HK2.out; have := HK3.out; omega
                        case rel => exact ⟨(wrap64 (Int.tdiv x0_3 2)), (wrap64 (-x6_3)), (by first | rfl | (simp; done) | (simp [*]; done)), (by first | rfl | (simp; done) | (simp [*]; done)), H', ⟨by have := HJ2.out; have := HK2.out; have := HK3.out; omega⟩, ⟨by repeat (first | (with_reducible first | exact HB.out | apply below_alloc | apply pw_below_drewN | apply below_drew1) | exact HB.out)⟩⟩
                      · rw [if_neg c17] at H
                        have c17b0 : ((Int.tmod x1_2 8) == 5) = false := beq_eq_false_iff_ne.mpr c17
                        have c17b1 : ((Int.tmod x1_2 8) != 5) = true := bne_iff_ne.mpr c17
                        have H' := Aside0.mk H
                        clear H
                        go_wp2
                        go_roundg k3
                        case measure => have := HJ2.out; have := HK2.out; have := HK3.out; omega
                        case rel => exact ⟨(wrap64 (Int.tdiv x0_3 2)), (x6_3), (by first | rfl | (simp; done) | (simp [*]; done)), (by first | rfl | (simp; done) | (simp [*]; done)), H', ⟨by have := HJ2.out; have := HK2.out; have := HK3.out; omega⟩, ⟨by repeat (first | (with_reducible first | exact HB.out | apply below_alloc | apply pw_below_drewN | apply below_drew1) | exact HB.out)⟩⟩
                  · rw [if_neg c15] at H
                    have c15b0 : ((Int.tmod x0_3 2) == 0) = false := beq_eq_false_iff_ne.mpr c15
                    have c15b1 : ((Int.tmod x0_3 2) != 0) = true := bne_iff_ne.mpr c15
                    by_cases c18 : (Int.tmod x0_3 4) = 3
                    · rw [if_pos c18] at H
                      have c18b0 : ((Int.tmod x0_3 4) == 3) = true := beq_iff_eq.mpr c18
                      have c18b1 : ((Int.tmod x0_3 4) != 3) = false := bne_eq_false_iff_eq.mpr c18
                      clear c18
                      by_cases c19 : (Int.tmod x1_2 4) = 3
                      · rw [if_pos c19] at H
                        have c19b0 : ((Int.tmod x1_2 4) == 3) = true := beq_iff_eq.mpr c19
                        have c19b1 : ((Int.tmod x1_2 4) != 3) = false := bne_eq_false_iff_eq.mpr c19
                        clear c19
                        by_cases c20 : x0_3 = 0
                        · rw [if_pos c20] at H
                          exact absurd H (by simp)
                        · rw [if_neg c20] at H
                          have c20b0 : (x0_3 == 0) = false := beq_eq_false_iff_ne.mpr c20
                          have c20b1 : (x0_3 != 0) = true := bne_iff_ne.mpr c20
                          have H' := Aside0.mk H
                          clear H
                          go_wp2
                          go_roundg k3
                          case measure => have := HJ2.out; have := HK2.out; have := HK3.out; omega
                          case rel => exact ⟨(Int.tmod x1_2 x0_3), (x0_3), (wrap64 (-x6_3)), (by first | rfl | (simp; done) | (simp [*]; done)), (by first | rfl | (simp; done) | (simp [*]; done)), (by first | rfl | (simp; done) | (simp [*]; done)), H', ⟨by have := HJ2.out; have := HK2.out; have := HK3.out; omega⟩, ⟨by repeat (first | (with_reducible first | exact HB.out | apply below_alloc | apply pw_below_drewN | apply below_drew1) | exact HB.out)⟩⟩
                      · rw [if_neg c19] at H
                        have c19b0 : ((Int.tmod x1_2 4) == 3) = false := beq_eq_false_iff_ne.mpr c19
                        have c19b1 : ((Int.tmod x1_2 4) != 3) = true := bne_iff_ne.mpr c19
                        by_cases c21 : x0_3 = 0
                        · rw [if_pos c21] at H
                          exact absurd H (by simp)
                        · rw [if_neg c21] at H
                          have c21b0 : (x0_3 == 0) = false := beq_eq_false_iff_ne.mpr c21
                          have c21b1 : (x0_3 != 0) = true := bne_iff_ne.mpr c21
                          have H' := Aside0.mk H
                          clear H
                          go_wp2
                          go_roundg k3
                          case measure => have := HJ2.out; have := HK2.out; have := HK3.out; omega
                          case rel => exact ⟨(Int.tmod x1_2 x0_3), (x0_3), (x6_3), (by first | rfl | (simp; done) | (simp [*]; done)), (by first | rfl | (simp; done) | (simp [*]; done)), (by first | rfl | (simp; done) | (simp [*]; done)), H', ⟨by have := HJ2.out; have := HK2.out; have := HK3.out; omega⟩, ⟨by repeat (first | (with_reducible first | exact HB.out | apply below_alloc | apply pw_below_drewN | apply below_drew1) | exact HB.out)⟩⟩
                    · rw [if_neg c18] at H
                      have c18b0 : ((Int.tmod x0_3 4) == 3) = false := beq_eq_false_iff_ne.mpr c18
                      have c18b1 : ((Int.tmod x0_3 4) != 3) = true := bne_iff_ne.mpr c18
                      by_cases c22 : x0_3 = 0
                      · rw [if_pos c22] at H
                        exact absurd H (by simp)
                      · rw [if_neg c22] at H
                        have c22b0 : (x0_3 == 0) = false := beq_eq_false_iff_ne.mpr c22
                        have c22b1 : (x0_3 != 0) = true := bne_iff_ne.mpr c22
                        have H' := Aside0.mk H
                        clear H
                        go_wp2
                        go_roundg k3
                        case measure => have := HJ2.out; have := HK2.out; have := HK3.out; omega
                        case rel => exact ⟨(Int.tmod x1_2 x0_3), (x0_3), (x6_3), (by first | rfl | (simp; done) | (simp [*]; done)), (by first | rfl | (simp; done) | (simp [*]; done)), (by first | rfl | (simp; done) | (simp [*]; done)), H', ⟨by have := HJ2.out; have := HK2.out; have := HK3.out; omega⟩, ⟨by repeat (first | (with_reducible first | exact HB.out | apply below_alloc | apply pw_below_drewN | apply below_drew1) | exact HB.out)⟩⟩
            · rw [if_neg c14] at H
              have c14b0 : decide (0 < x0_2) = false := decide_eq_false c14
              clear c14
              by_cases c23 : x1_2 > 1
              · rw [if_pos c23] at H
                have c23b0 : decide (1 < x1_2) = true := decide_eq_true c23
                clear c23
                simp only [Option.some.injEq, Prod.mk.injEq] at H
                obtain ⟨rfl, rfl⟩ := H
                go_wp2
                go_ret2
                exact ⟨by first | rfl | (simp [errW_none, errW_some] <;> rfl) | (simp [*, errW_none, errW_some] <;> rfl), by repeat (first | (with_reducible first | exact HB.out | apply below_alloc | apply pw_below_drewN | apply below_drew1) | exact HB.out)⟩
              · rw [if_neg c23] at H
                have c23b0 : decide (1 < x1_2) = false := decide_eq_false c23
                clear c23
                simp only [Option.some.injEq, Prod.mk.injEq] at H
                obtain ⟨rfl, rfl⟩ := H
                go_wp2
                go_ret2
                exact ⟨by first | rfl | (simp [errW_none, errW_some] <;> rfl) | (simp [*, errW_none, errW_some] <;> rfl), by repeat (first | (with_reducible first | exact HB.out | apply below_alloc | apply pw_below_drewN | apply below_drew1) | exact HB.out)⟩

/-! ### quadratic_symbol: function 20 -/
mutual
def quadratic_symbol.j0 : Nat → Int → Int → Int → Option (Int)
  | 0, _, _, _ => none
  | k + 1, x0, x1, x5 => quadratic_symbol.l0 k x0 x1 x5
def quadratic_symbol.l0 : Nat → Int → Int → Int → Option (Int)
  | 0, _, _, _ => none
  | k + 1, x0, x1, x5 => if (Int.tmod x1 2) = 0 then (if (Go.bits .and .i64 x0 7) = 1 then (quadratic_symbol.l0 k x0 (wrap64 (Int.tdiv x1 2)) x5) else (if (Go.bits .and .i64 x0 7) = 5 then (quadratic_symbol.l0 k x0 (wrap64 (Int.tdiv x1 2)) (wrap64 (-x5))) else (some 0))) else ((residue_Jacobi.f k x0 x1).bind fun bt144 => (some (wrap64 (x5 * bt144.1))))
end
def quadratic_symbol.f (k : Nat) (a0 : Int) (a1 : Int) : Option (Int) := if a1 = 0 then (if a0 = 1 then (some 1) else (some 0)) else (if a1 < 0 then (if a0 < 0 then (quadratic_symbol.j0 k a0 (wrap64 (-a1)) (-1)) else (quadratic_symbol.j0 k a0 (wrap64 (-a1)) 1)) else (quadratic_symbol.j0 k a0 a1 1))
theorem quadratic_symbol.mono_l : ∀ k, (∀ y0 y1 y2, LeO (quadratic_symbol.j0 k y0 y1 y2) (quadratic_symbol.j0 (k + 1) y0 y1 y2)) ∧ (∀ y0 y1 y2, LeO (quadratic_symbol.l0 k y0 y1 y2) (quadratic_symbol.l0 (k + 1) y0 y1 y2))
  | 0 => ⟨fun _ _ _ r h => by simp [quadratic_symbol.j0] at h, fun _ _ _ r h => by simp [quadratic_symbol.l0] at h⟩
  | k + 1 => by
    obtain ⟨ih0, ih1⟩ := quadratic_symbol.mono_l k
    refine ⟨?_, ?_⟩
    · intro y0 y1 y2
      unfold quadratic_symbol.j0
      repeat' first
      | (with_reducible exact ih0 _ _ _)
      | (with_reducible exact ih1 _ _ _)
      | (with_reducible exact residue_Jacobi.mono _ _ _)
      | (with_reducible exact LeO.refl _)
      | (with_reducible exact LeO.none _)
      | (with_reducible refine LeO.ite ?_ ?_)
      | (with_reducible refine LeO.bind ?_ (fun _ => ?_))
      | exact ih0 _ _ _
      | exact ih1 _ _ _
      | exact residue_Jacobi.mono _ _ _
      | exact LeO.none _
      | refine LeO.ite ?_ ?_
      | refine LeO.bind ?_ (fun _ => ?_)
    · intro y0 y1 y2
      unfold quadratic_symbol.l0
      repeat' first
      | (with_reducible exact ih0 _ _ _)
      | (with_reducible exact ih1 _ _ _)
      | (with_reducible exact residue_Jacobi.mono _ _ _)
      | (with_reducible exact LeO.refl _)
      | (with_reducible exact LeO.none _)
      | (with_reducible refine LeO.ite ?_ ?_)
      | (with_reducible refine LeO.bind ?_ (fun _ => ?_))
      | exact ih0 _ _ _
      | exact ih1 _ _ _
      | exact residue_Jacobi.mono _ _ _
      | exact LeO.none _
      | refine LeO.ite ?_ ?_
      | refine LeO.bind ?_ (fun _ => ?_)
theorem quadratic_symbol.mono : ∀ a0 a1 k, LeO (quadratic_symbol.f k a0 a1) (quadratic_symbol.f (k + 1) a0 a1) := by
  intro a0 a1 k
  obtain ⟨ih0, ih1⟩ := quadratic_symbol.mono_l k
  unfold quadratic_symbol.f
  repeat' first
      | (with_reducible exact ih0 _ _ _)
      | (with_reducible exact ih1 _ _ _)
      | (with_reducible exact residue_Jacobi.mono _ _ _)
      | (with_reducible exact LeO.refl _)
      | (with_reducible exact LeO.none _)
      | (with_reducible refine LeO.ite ?_ ?_)
      | (with_reducible refine LeO.bind ?_ (fun _ => ?_))
      | exact ih0 _ _ _
      | exact ih1 _ _ _
      | exact residue_Jacobi.mono _ _ _
      | exact LeO.none _
      | refine LeO.ite ?_ ?_
      | refine LeO.bind ?_ (fun _ => ?_)
set_option maxHeartbeats 8000000 in
set_option maxRecDepth 100000 in
theorem quadratic_symbol.calls (k : Nat) (a0 : Int) (a1 : Int) (r : Int) (w : World) (h : quadratic_symbol.f k a0 a1 = some r) :
    Calls Try.prog 20 #[.int .i64 a0, .int .i64 a1] w fun e w' => e = .returned (.int .i64 r) ∧ Below w.heap.size w w' := by
  have HB := Aside0.mk (Below.refl w.heap.size w)
  have H : (if a1 = 0 then (if a0 = 1 then (some 1) else (some 0)) else (if a1 < 0 then (if a0 < 0 then (quadratic_symbol.j0 k a0 (wrap64 (-a1)) (-1)) else (quadratic_symbol.j0 k a0 (wrap64 (-a1)) 1)) else (quadratic_symbol.j0 k a0 a1 1))) = some r := h
  clear h
  by_cases c3 : a1 = 0
  · rw [if_pos c3] at H
    have c3b0 : (a1 == 0) = true := beq_iff_eq.mpr c3
    have c3b1 : (a1 != 0) = false := bne_eq_false_iff_eq.mpr c3
    clear c3
    by_cases c4 : a0 = 1
    · rw [if_pos c4] at H
      have c4b0 : (a0 == 1) = true := beq_iff_eq.mpr c4
      have c4b1 : (a0 != 1) = false := bne_eq_false_iff_eq.mpr c4
      clear c4
      obtain rfl := Option.some.inj H
      go_enter Try.func20, Try.ntmps20
      go_wp2
      go_ret
      exact ⟨by first | rfl | (simp [errW_none, errW_some] <;> rfl) | (simp [*, errW_none, errW_some] <;> rfl), by repeat (first | (with_reducible first | exact HB.out | apply below_alloc | apply pw_below_drewN | apply below_drew1) | exact HB.out)⟩
    · rw [if_neg c4] at H
      have c4b0 : (a0 == 1) = false := beq_eq_false_iff_ne.mpr c4
      have c4b1 : (a0 != 1) = true := bne_iff_ne.mpr c4
      obtain rfl := Option.some.inj H
      go_enter Try.func20, Try.ntmps20
      go_wp2
      go_ret
      exact ⟨by first | rfl | (simp [errW_none, errW_some] <;> rfl) | (simp [*, errW_none, errW_some] <;> rfl), by repeat (first | (with_reducible first | exact HB.out | apply below_alloc | apply pw_below_drewN | apply below_drew1) | exact HB.out)⟩
  · rw [if_neg c3] at H
    have c3b0 : (a1 == 0) = false := beq_eq_false_iff_ne.mpr c3
    have c3b1 : (a1 != 0) = true := bne_iff_ne.mpr c3
    have HC5 := Aside0.mk H
    clear H
    go_enter Try.func20, Try.ntmps20
    go_upto_if 13 with (fail)
    go_cut [1, 5] (fun v1 v5 wc => ∃ (kq : Nat) (x1_4 : Int) (x5_4 : Int), v1 = .int .i64 x1_4 ∧ v5 = .int .i64 x5_4 ∧ Aside0 (quadratic_symbol.j0 kq a0 x1_4 x5_4 = some r) ∧ Aside0 (kq ≤ k) ∧ Aside0 (Below w.heap.size w wc))
    case first =>
      have H := HC5.out
      clear HC5
      by_cases c6 : a1 < 0
      · rw [if_pos c6] at H
        have c6b0 : decide (a1 < 0) = true := decide_eq_true c6
        clear c6
        (first | rw [c6b0] | (simp only [i64_w, i32_w]; rw [c6b0]) | skip)
        by_cases c7 : a0 < 0
        · rw [if_pos c7] at H
          have c7b0 : decide (a0 < 0) = true := decide_eq_true c7
          clear c7
          have H' := Aside0.mk H
          clear H
          go_wp2
          go_meet
          case rel => exact ⟨_, (wrap64 (-a1)), ((-1)), (by first | rfl | (simp; done) | (simp [*]; done)), (by first | rfl | (simp; done) | (simp [*]; done)), H', ⟨by first | omega | exact Nat.le_refl _⟩, ⟨by repeat (first | (with_reducible first | exact HB.out | apply below_alloc | apply pw_below_drewN | apply below_drew1) | exact HB.out)⟩⟩
        · rw [if_neg c7] at H
          have c7b0 : decide (a0 < 0) = false := decide_eq_false c7
          clear c7
          have H' := Aside0.mk H
          clear H
          go_wp2
          go_meet
          case rel => exact ⟨_, (wrap64 (-a1)), (1), (by first | rfl | (simp; done) | (simp [*]; done)), (by first | rfl | (simp; done) | (simp [*]; done)), H', ⟨by first | omega | exact Nat.le_refl _⟩, ⟨by repeat (first | (with_reducible first | exact HB.out | apply below_alloc | apply pw_below_drewN | apply below_drew1) | exact HB.out)⟩⟩
      · rw [if_neg c6] at H
        have c6b0 : decide (a1 < 0) = false := decide_eq_false c6
        clear c6
        (first | rw [c6b0] | (simp only [i64_w, i32_w]; rw [c6b0]) | skip)
        have H' := Aside0.mk H
        clear H
        go_wp2
        go_meet
        case rel => exact ⟨_, (a1), (1), (by first | rfl | (simp; done) | (simp [*]; done)), (by first | rfl | (simp; done) | (simp [*]; done)), H', ⟨by first | omega | exact Nat.le_refl _⟩, ⟨by repeat (first | (with_reducible first | exact HB.out | apply below_alloc | apply pw_below_drewN | apply below_drew1) | exact HB.out)⟩⟩
    case rest =>
      clear HC5
      try clear c2
      try clear p2
      try clear c3
      try clear c3b0
      try clear c3b1
      try clear c4
      try clear c4b0
      try clear c4b1
      try clear c6
      try clear c6b0
      try clear p6
      try clear c7
      try clear c7b0
      obtain ⟨kq, x1_4, x5_4, rfl, rfl, HA, HJ4, HB⟩ := hcut
      cases kq with
      | zero => exact absurd HA.out (by simp [quadratic_symbol.j0])
      | succ kj4 =>
        have H := HA.out
        clear HA
        simp only [quadratic_symbol.j0] at H
        have H' := Aside0.mk H
        clear H
        go_wp2
        go_loopg [1, 5] kj4 (fun kq v1 v5 w' => ∃ (x1_2 : Int) (x5_2 : Int), v1 = .int .i64 x1_2 ∧ v5 = .int .i64 x5_2 ∧ Aside0 (quadratic_symbol.l0 kq a0 x1_2 x5_2 = some r) ∧ Aside0 (kq ≤ kj4) ∧ Aside0 (Below w.heap.size w w'))
        case atStart => exact ⟨(x1_4), (x5_4), (by first | rfl | (simp; done) | (simp [*]; done)), (by first | rfl | (simp; done) | (simp [*]; done)), H', ⟨Nat.le_refl _⟩, ⟨by repeat (first | (with_reducible first | exact HB.out | apply below_alloc | apply pw_below_drewN | apply below_drew1) | exact HB.out)⟩⟩
        case round =>
          clear H'
          try clear c2
          try clear p2
          try clear c3
          try clear c3b0
          try clear c3b1
          try clear c4
          try clear c4b0
          try clear c4b1
          try clear c6
          try clear c6b0
          try clear p6
          try clear c7
          try clear c7b0
          try clear p2
          try clear p6
          obtain ⟨x1_2, x5_2, rfl, rfl, HA, HK2, HB⟩ := hrel
          cases gk with
          | zero => exact absurd HA.out (by simp [quadratic_symbol.l0])
          | succ k2 =>
            have H := HA.out
            clear HA
            simp only [quadratic_symbol.l0] at H
            by_cases c8 : (Int.tmod x1_2 2) = 0
            · rw [if_pos c8] at H
              have c8b0 : ((Int.tmod x1_2 2) == 0) = true := beq_iff_eq.mpr c8
              have c8b1 : ((Int.tmod x1_2 2) != 0) = false := bne_eq_false_iff_eq.mpr c8
              clear c8
              by_cases c9 : (Go.bits .and .i64 a0 7) = 1
              · rw [if_pos c9] at H
                have c9b0 : ((Go.bits .and .i64 a0 7) == 1) = true := beq_iff_eq.mpr c9
                have c9b1 : ((Go.bits .and .i64 a0 7) != 1) = false := bne_eq_false_iff_eq.mpr c9
                clear c9
                have H' := Aside0.mk H
                clear H
                go_wp2
                go_roundg k2
                case measure => have := HJ4.out; have := HK2.out; omega
                case rel => exact ⟨(wrap64 (Int.tdiv x1_2 2)), (x5_2), (by first | rfl | (simp; done) | (simp [*]; done)), (by first | rfl | (simp; done) | (simp [*]; done)), H', ⟨by have := HJ4.out; have := HK2.out; omega⟩, ⟨by repeat (first | (with_reducible first | exact HB.out | apply below_alloc | apply pw_below_drewN | apply below_drew1) | exact HB.out)⟩⟩
              · rw [if_neg c9] at H
                have c9b0 : ((Go.bits .and .i64 a0 7) == 1) = false := beq_eq_false_iff_ne.mpr c9
                have c9b1 : ((Go.bits .and .i64 a0 7) != 1) = true := bne_iff_ne.mpr c9
                by_cases c10 : (Go.bits .and .i64 a0 7) = 5
                · rw [if_pos c10] at H
                  have c10b0 : ((Go.bits .and .i64 a0 7) == 5) = true := beq_iff_eq.mpr c10
                  have c10b1 : ((Go.bits .and .i64 a0 7) != 5) = false := bne_eq_false_iff_eq.mpr c10
                  clear c10
                  have H' := Aside0.mk H
                  clear H
                  go_wp2
                  go_roundg k2
                  case measure => have := HJ4.out; have := HK2.out; omega
                  case rel => exact ⟨(wrap64 (Int.tdiv x1_2 2)), (wrap64 (-x5_2)), (by first | rfl | (simp; done) | (simp [*]; done)), (by first | rfl | (simp; done) | (simp [*]; done)), H', ⟨by have := HJ4.out; have := HK2.out; omega⟩, ⟨by repeat (first | (with_reducible first | exact HB.out | apply below_alloc | apply pw_below_drewN | apply below_drew1) | exact HB.out)⟩⟩
                · rw [if_neg c10] at H
                  have c10b0 : ((Go.bits .and .i64 a0 7) == 5) = false := beq_eq_false_iff_ne.mpr c10
                  have c10b1 : ((Go.bits .and .i64 a0 7) != 5) = true := bne_iff_ne.mpr c10
                  obtain rfl := Option.some.inj H
                  go_wp2
                  go_ret
                  exact ⟨by first | rfl | (simp [errW_none, errW_some] <;> rfl) | (simp [*, errW_none, errW_some] <;> rfl), by repeat (first | (with_reducible first | exact HB.out | apply below_alloc | apply pw_below_drewN | apply below_drew1) | exact HB.out)⟩
            · rw [if_neg c8] at H
              have c8b0 : ((Int.tmod x1_2 2) == 0) = false := beq_eq_false_iff_ne.mpr c8
              have c8b1 : ((Int.tmod x1_2 2) != 0) = true := bne_iff_ne.mpr c8
              replace H := Option.bind_eq_some_iff.mp H
              obtain ⟨⟨t144, t145⟩, A110, H⟩ := H
              replace H : (some (wrap64 (x5_2 * t144))) = some r := H
              have A11 := Aside0.mk A110
              clear A110
              obtain rfl := Option.some.inj H
              go_wp2_with (first | ((with_reducible refine gate_callee (f := 25) rfl ?_); refine goesL_ (some 34) rfl rfl Try.func25 (by kernel_rfl) rfl #[.int .i64 a0, .int .i64 x1_2] rfl (by (try simp only [List.map_toArray, List.map_cons, List.map_nil]); first | done | rfl | (simp only [List.length_drop, List.length_take]; rfl)) ?_; (with_reducible refine (residue_Jacobi.calls k2 a0 x1_2 t144 t145 _ A11.out).mono ?_); rintro e w12 ⟨rfl, hb⟩; refine ⟨_, rfl, ?_⟩; have n0_ := Aside0.mk (below_step (by repeat (first | (with_reducible first | exact HB.out | apply below_alloc | apply pw_below_drewN | apply below_drew1) | exact HB.out)) hb); clear HB; have HB := n0_; clear n0_; (try clear hb); (try clear hb2); (try clear hk); (try clear hi)))
              go_ret
              exact ⟨by first | rfl | (simp [errW_none, errW_some] <;> rfl) | (simp [*, errW_none, errW_some] <;> rfl), by repeat (first | (with_reducible first | exact HB.out | apply below_alloc | apply pw_below_drewN | apply below_drew1) | exact HB.out)⟩

end Go.Proofs.Ytppdaagiofcmkaa.Q
