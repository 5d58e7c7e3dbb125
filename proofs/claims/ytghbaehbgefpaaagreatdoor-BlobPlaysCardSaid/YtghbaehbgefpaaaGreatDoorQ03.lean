import Derived.Test.YtghbaehbgefpaaaGreatDoorQ02
/- Several texts of this session in one: the walks of the functions that the laws reach, and what they tell. -/
set_option linter.unusedVariables false
set_option linter.unusedSimpArgs false
namespace Go.Proofs.YtghbaehbgefpaaaGreatDoor.F
open Go.Proofs.YtghbaehbgefpaaaGreatDoor.Fr
open Go.Proofs.YtghbaehbgefpaaaGreatDoor
open Go.RowKit Go.Proofs.YtghbaehbgefpaaaGreatDoorW.PrintWords Go.Proofs.YtghbaehbgefpaaaGreatDoorW.PrintLast Go.Proofs.YtghbaehbgefpaaaGreatDoorW.PrintMore
attribute [local go_sem] max2_int min2_int max_two min_two max_three min_three max_four min_four   -- for this text's walks alone
def cooperageref1_digit.f (a0 : Int) : Option (Bool) := if a0 ≥ 48 then (some (decide (a0 ≤ 57))) else (some false)
set_option maxHeartbeats 8000000 in
set_option maxRecDepth 100000 in
theorem cooperageref1_digit.calls (a0 : Int) (r : Bool) (w : World) (h : cooperageref1_digit.f a0 = some r) :
    Calls Tryz.prog 96 #[.int .u8 a0] w fun e w' => e = .returned (.bool r) ∧ Drawn0 w w' := by
  have H : (if a0 ≥ 48 then (some (decide (a0 ≤ 57))) else (some false)) = some r := h
  clear h
  by_cases c2 : a0 ≥ 48
  · rw [if_pos c2] at H
    have c2b0 : decide (48 ≤ a0) = true := decide_eq_true c2
    clear c2
    obtain rfl := Option.some.inj H
    go_enter Tryz.func96, Tryz.ntmps96
    go_wp2
    go_ret
    exact ⟨by first | rfl | (simp; done) | (simp [*]; done), by repeat (first | exact Drawn0.refl _ | apply Drawn0.step)⟩
  · rw [if_neg c2] at H
    have c2b0 : decide (48 ≤ a0) = false := decide_eq_false c2
    clear c2
    obtain rfl := Option.some.inj H
    go_enter Tryz.func96, Tryz.ntmps96
    go_wp2
    go_ret
    exact ⟨by first | rfl | (simp; done) | (simp [*]; done), by repeat (first | exact Drawn0.refl _ | apply Drawn0.step)⟩
attribute [local go_sem] max2_int min2_int max_two min_two max_three min_three max_four min_four   -- for this text's walks alone
def cooperageref1_plain.f (a0 : Int) : Option (Bool) := if a0 ≥ 65 then (if a0 ≤ 90 then (some true) else (if a0 ≥ 97 then (if a0 ≤ 122 then (some true) else ((cooperageref1_digit.f a0).bind fun t106 => (if t106 = true then (some true) else (if a0 = 95 then (some true) else (if a0 = 45 then (some true) else (if a0 = 46 then (some true) else (if a0 = 47 then (some true) else (some (a0 == 43))))))))) else ((cooperageref1_digit.f a0).bind fun t107 => (if t107 = true then (some true) else (if a0 = 95 then (some true) else (if a0 = 45 then (some true) else (if a0 = 46 then (some true) else (if a0 = 47 then (some true) else (some (a0 == 43)))))))))) else (if a0 ≥ 97 then (if a0 ≤ 122 then (some true) else ((cooperageref1_digit.f a0).bind fun t108 => (if t108 = true then (some true) else (if a0 = 95 then (some true) else (if a0 = 45 then (some true) else (if a0 = 46 then (some true) else (if a0 = 47 then (some true) else (some (a0 == 43))))))))) else ((cooperageref1_digit.f a0).bind fun t109 => (if t109 = true then (some true) else (if a0 = 95 then (some true) else (if a0 = 45 then (some true) else (if a0 = 46 then (some true) else (if a0 = 47 then (some true) else (some (a0 == 43)))))))))
set_option maxHeartbeats 8000000 in
set_option maxRecDepth 100000 in
theorem cooperageref1_plain.calls (a0 : Int) (r : Bool) (w : World) (h : cooperageref1_plain.f a0 = some r) :
    Calls Tryz.prog 75 #[.int .u8 a0] w fun e w' => e = .returned (.bool r) ∧ Drawn0 w w' := by
  have H : (if a0 ≥ 65 then (if a0 ≤ 90 then (some true) else (if a0 ≥ 97 then (if a0 ≤ 122 then (some true) else ((cooperageref1_digit.f a0).bind fun t106 => (if t106 = true then (some true) else (if a0 = 95 then (some true) else (if a0 = 45 then (some true) else (if a0 = 46 then (some true) else (if a0 = 47 then (some true) else (some (a0 == 43))))))))) else ((cooperageref1_digit.f a0).bind fun t107 => (if t107 = true then (some true) else (if a0 = 95 then (some true) else (if a0 = 45 then (some true) else (if a0 = 46 then (some true) else (if a0 = 47 then (some true) else (some (a0 == 43)))))))))) else (if a0 ≥ 97 then (if a0 ≤ 122 then (some true) else ((cooperageref1_digit.f a0).bind fun t108 => (if t108 = true then (some true) else (if a0 = 95 then (some true) else (if a0 = 45 then (some true) else (if a0 = 46 then (some true) else (if a0 = 47 then (some true) else (some (a0 == 43))))))))) else ((cooperageref1_digit.f a0).bind fun t109 => (if t109 = true then (some true) else (if a0 = 95 then (some true) else (if a0 = 45 then (some true) else (if a0 = 46 then (some true) else (if a0 = 47 then (some true) else (some (a0 == 43)))))))))) = some r := h
  clear h
  by_cases c2 : a0 ≥ 65
  · rw [if_pos c2] at H
    have c2b0 : decide (65 ≤ a0) = true := decide_eq_true c2
    clear c2
    by_cases c3 : a0 ≤ 90
    · rw [if_pos c3] at H
      have c3b0 : decide (a0 ≤ 90) = true := decide_eq_true c3
      clear c3
      obtain rfl := Option.some.inj H
      go_enter Tryz.func75, Tryz.ntmps75
      go_wp2
      go_ret
      exact ⟨by first | rfl | (simp; done) | (simp [*]; done), by repeat (first | exact Drawn0.refl _ | apply Drawn0.step)⟩
    · rw [if_neg c3] at H
      have c3b0 : decide (a0 ≤ 90) = false := decide_eq_false c3
      clear c3
      by_cases c4 : a0 ≥ 97
      · rw [if_pos c4] at H
        have c4b0 : decide (97 ≤ a0) = true := decide_eq_true c4
        clear c4
        by_cases c5 : a0 ≤ 122
        · rw [if_pos c5] at H
          have c5b0 : decide (a0 ≤ 122) = true := decide_eq_true c5
          clear c5
          obtain rfl := Option.some.inj H
          go_enter Tryz.func75, Tryz.ntmps75
          go_wp2
          go_ret
          exact ⟨by first | rfl | (simp; done) | (simp [*]; done), by repeat (first | exact Drawn0.refl _ | apply Drawn0.step)⟩
        · rw [if_neg c5] at H
          have c5b0 : decide (a0 ≤ 122) = false := decide_eq_false c5
          clear c5
          replace H := Option.bind_eq_some_iff.mp H
          obtain ⟨t106, A60, H⟩ := H
          replace H : (if t106 = true then (some true) else (if a0 = 95 then (some true) else (if a0 = 45 then (some true) else (if a0 = 46 then (some true) else (if a0 = 47 then (some true) else (some (a0 == 43))))))) = some r := H
          have A6 := Aside0.mk A60
          clear A60
          by_cases c7 : t106 = true
          · subst c7
            have H1 : (some true) = some r := by rw [if_pos rfl] at H; exact H
            clear H
            have H := H1
            clear H1
            obtain rfl := Option.some.inj H
            go_enter Tryz.func75, Tryz.ntmps75
            go_wp2_with (first | (go_at_call 96; (with_reducible refine (cooperageref1_digit.calls a0 true _ A6.out).mono ?_); rintro e w' ⟨rfl, ⟨nd, rfl⟩⟩))
            go_ret
            exact ⟨by first | rfl | (simp; done) | (simp [*]; done), by repeat (first | exact Drawn0.refl _ | apply Drawn0.step)⟩
          · replace c7 := Bool.eq_false_iff.mpr c7
            subst c7
            have H1 : (if a0 = 95 then (some true) else (if a0 = 45 then (some true) else (if a0 = 46 then (some true) else (if a0 = 47 then (some true) else (some (a0 == 43)))))) = some r := by rw [if_neg (show ¬ (false = true) by decide)] at H; exact H
            clear H
            have H := H1
            clear H1
            by_cases c8 : a0 = 95
            · rw [if_pos c8] at H
              have c8b0 : (a0 == 95) = true := beq_iff_eq.mpr c8
              have c8b1 : (a0 != 95) = false := bne_eq_false_iff_eq.mpr c8
              clear c8
              obtain rfl := Option.some.inj H
              go_enter Tryz.func75, Tryz.ntmps75
              go_wp2_with (first | (go_at_call 96; (with_reducible refine (cooperageref1_digit.calls a0 false _ A6.out).mono ?_); rintro e w' ⟨rfl, ⟨nd, rfl⟩⟩))
              go_ret
              exact ⟨by first | rfl | (simp; done) | (simp [*]; done), by repeat (first | exact Drawn0.refl _ | apply Drawn0.step)⟩
            · rw [if_neg c8] at H
              have c8b0 : (a0 == 95) = false := beq_eq_false_iff_ne.mpr c8
              have c8b1 : (a0 != 95) = true := bne_iff_ne.mpr c8
              by_cases c9 : a0 = 45
              · rw [if_pos c9] at H
                have c9b0 : (a0 == 45) = true := beq_iff_eq.mpr c9
                have c9b1 : (a0 != 45) = false := bne_eq_false_iff_eq.mpr c9
                clear c9
                obtain rfl := Option.some.inj H
                go_enter Tryz.func75, Tryz.ntmps75
                go_wp2_with (first | (go_at_call 96; (with_reducible refine (cooperageref1_digit.calls a0 false _ A6.out).mono ?_); rintro e w' ⟨rfl, ⟨nd, rfl⟩⟩))
                go_ret
                exact ⟨by first | rfl | (simp; done) | (simp [*]; done), by repeat (first | exact Drawn0.refl _ | apply Drawn0.step)⟩
              · rw [if_neg c9] at H
                have c9b0 : (a0 == 45) = false := beq_eq_false_iff_ne.mpr c9
                have c9b1 : (a0 != 45) = true := bne_iff_ne.mpr c9
                by_cases c10 : a0 = 46
                · rw [if_pos c10] at H
                  have c10b0 : (a0 == 46) = true := beq_iff_eq.mpr c10
                  have c10b1 : (a0 != 46) = false := bne_eq_false_iff_eq.mpr c10
                  clear c10
                  obtain rfl := Option.some.inj H
                  go_enter Tryz.func75, Tryz.ntmps75
                  go_wp2_with (first | (go_at_call 96; (with_reducible refine (cooperageref1_digit.calls a0 false _ A6.out).mono ?_); rintro e w' ⟨rfl, ⟨nd, rfl⟩⟩))
                  go_ret
                  exact ⟨by first | rfl | (simp; done) | (simp [*]; done), by repeat (first | exact Drawn0.refl _ | apply Drawn0.step)⟩
                · rw [if_neg c10] at H
                  have c10b0 : (a0 == 46) = false := beq_eq_false_iff_ne.mpr c10
                  have c10b1 : (a0 != 46) = true := bne_iff_ne.mpr c10
                  by_cases c11 : a0 = 47
                  · rw [if_pos c11] at H
                    have c11b0 : (a0 == 47) = true := beq_iff_eq.mpr c11
                    have c11b1 : (a0 != 47) = false := bne_eq_false_iff_eq.mpr c11
                    clear c11
                    obtain rfl := Option.some.inj H
                    go_enter Tryz.func75, Tryz.ntmps75
                    go_wp2_with (first | (go_at_call 96; (with_reducible refine (cooperageref1_digit.calls a0 false _ A6.out).mono ?_); rintro e w' ⟨rfl, ⟨nd, rfl⟩⟩))
                    go_ret
                    exact ⟨by first | rfl | (simp; done) | (simp [*]; done), by repeat (first | exact Drawn0.refl _ | apply Drawn0.step)⟩
                  · rw [if_neg c11] at H
                    have c11b0 : (a0 == 47) = false := beq_eq_false_iff_ne.mpr c11
                    have c11b1 : (a0 != 47) = true := bne_iff_ne.mpr c11
                    obtain rfl := Option.some.inj H
                    go_enter Tryz.func75, Tryz.ntmps75
                    go_wp2_with (first | (go_at_call 96; (with_reducible refine (cooperageref1_digit.calls a0 false _ A6.out).mono ?_); rintro e w' ⟨rfl, ⟨nd, rfl⟩⟩))
                    go_ret
                    exact ⟨by first | rfl | (simp; done) | (simp [*]; done), by repeat (first | exact Drawn0.refl _ | apply Drawn0.step)⟩
      · rw [if_neg c4] at H
        have c4b0 : decide (97 ≤ a0) = false := decide_eq_false c4
        clear c4
        replace H := Option.bind_eq_some_iff.mp H
        obtain ⟨t107, A120, H⟩ := H
        replace H : (if t107 = true then (some true) else (if a0 = 95 then (some true) else (if a0 = 45 then (some true) else (if a0 = 46 then (some true) else (if a0 = 47 then (some true) else (some (a0 == 43))))))) = some r := H
        have A12 := Aside0.mk A120
        clear A120
        by_cases c13 : t107 = true
        · subst c13
          have H1 : (some true) = some r := by rw [if_pos rfl] at H; exact H
          clear H
          have H := H1
          clear H1
          obtain rfl := Option.some.inj H
          go_enter Tryz.func75, Tryz.ntmps75
          go_wp2_with (first | (go_at_call 96; (with_reducible refine (cooperageref1_digit.calls a0 true _ A12.out).mono ?_); rintro e w' ⟨rfl, ⟨nd, rfl⟩⟩))
          go_ret
          exact ⟨by first | rfl | (simp; done) | (simp [*]; done), by repeat (first | exact Drawn0.refl _ | apply Drawn0.step)⟩
        · replace c13 := Bool.eq_false_iff.mpr c13
          subst c13
          have H1 : (if a0 = 95 then (some true) else (if a0 = 45 then (some true) else (if a0 = 46 then (some true) else (if a0 = 47 then (some true) else (some (a0 == 43)))))) = some r := by rw [if_neg (show ¬ (false = true) by decide)] at H; exact H
          clear H
          have H := H1
          clear H1
          by_cases c14 : a0 = 95
          · rw [if_pos c14] at H
            have c14b0 : (a0 == 95) = true := beq_iff_eq.mpr c14
            have c14b1 : (a0 != 95) = false := bne_eq_false_iff_eq.mpr c14
            clear c14
            obtain rfl := Option.some.inj H
            go_enter Tryz.func75, Tryz.ntmps75
            go_wp2_with (first | (go_at_call 96; (with_reducible refine (cooperageref1_digit.calls a0 false _ A12.out).mono ?_); rintro e w' ⟨rfl, ⟨nd, rfl⟩⟩))
            go_ret
            exact ⟨by first | rfl | (simp; done) | (simp [*]; done), by repeat (first | exact Drawn0.refl _ | apply Drawn0.step)⟩
          · rw [if_neg c14] at H
            have c14b0 : (a0 == 95) = false := beq_eq_false_iff_ne.mpr c14
            have c14b1 : (a0 != 95) = true := bne_iff_ne.mpr c14
            by_cases c15 : a0 = 45
            · rw [if_pos c15] at H
              have c15b0 : (a0 == 45) = true := beq_iff_eq.mpr c15
              have c15b1 : (a0 != 45) = false := bne_eq_false_iff_eq.mpr c15
              clear c15
              obtain rfl := Option.some.inj H
              go_enter Tryz.func75, Tryz.ntmps75
              go_wp2_with (first | (go_at_call 96; (with_reducible refine (cooperageref1_digit.calls a0 false _ A12.out).mono ?_); rintro e w' ⟨rfl, ⟨nd, rfl⟩⟩))
              go_ret
              exact ⟨by first | rfl | (simp; done) | (simp [*]; done), by repeat (first | exact Drawn0.refl _ | apply Drawn0.step)⟩
            · rw [if_neg c15] at H
              have c15b0 : (a0 == 45) = false := beq_eq_false_iff_ne.mpr c15
              have c15b1 : (a0 != 45) = true := bne_iff_ne.mpr c15
              by_cases c16 : a0 = 46
              · rw [if_pos c16] at H
                have c16b0 : (a0 == 46) = true := beq_iff_eq.mpr c16
                have c16b1 : (a0 != 46) = false := bne_eq_false_iff_eq.mpr c16
                clear c16
                obtain rfl := Option.some.inj H
                go_enter Tryz.func75, Tryz.ntmps75
                go_wp2_with (first | (go_at_call 96; (with_reducible refine (cooperageref1_digit.calls a0 false _ A12.out).mono ?_); rintro e w' ⟨rfl, ⟨nd, rfl⟩⟩))
                go_ret
                exact ⟨by first | rfl | (simp; done) | (simp [*]; done), by repeat (first | exact Drawn0.refl _ | apply Drawn0.step)⟩
              · rw [if_neg c16] at H
                have c16b0 : (a0 == 46) = false := beq_eq_false_iff_ne.mpr c16
                have c16b1 : (a0 != 46) = true := bne_iff_ne.mpr c16
                by_cases c17 : a0 = 47
                · rw [if_pos c17] at H
                  have c17b0 : (a0 == 47) = true := beq_iff_eq.mpr c17
                  have c17b1 : (a0 != 47) = false := bne_eq_false_iff_eq.mpr c17
                  clear c17
                  obtain rfl := Option.some.inj H
                  go_enter Tryz.func75, Tryz.ntmps75
                  go_wp2_with (first | (go_at_call 96; (with_reducible refine (cooperageref1_digit.calls a0 false _ A12.out).mono ?_); rintro e w' ⟨rfl, ⟨nd, rfl⟩⟩))
                  go_ret
                  exact ⟨by first | rfl | (simp; done) | (simp [*]; done), by repeat (first | exact Drawn0.refl _ | apply Drawn0.step)⟩
                · rw [if_neg c17] at H
                  have c17b0 : (a0 == 47) = false := beq_eq_false_iff_ne.mpr c17
                  have c17b1 : (a0 != 47) = true := bne_iff_ne.mpr c17
                  obtain rfl := Option.some.inj H
                  go_enter Tryz.func75, Tryz.ntmps75
                  go_wp2_with (first | (go_at_call 96; (with_reducible refine (cooperageref1_digit.calls a0 false _ A12.out).mono ?_); rintro e w' ⟨rfl, ⟨nd, rfl⟩⟩))
                  go_ret
                  exact ⟨by first | rfl | (simp; done) | (simp [*]; done), by repeat (first | exact Drawn0.refl _ | apply Drawn0.step)⟩
  · rw [if_neg c2] at H
    have c2b0 : decide (65 ≤ a0) = false := decide_eq_false c2
    clear c2
    by_cases c18 : a0 ≥ 97
    · rw [if_pos c18] at H
      have c18b0 : decide (97 ≤ a0) = true := decide_eq_true c18
      clear c18
      by_cases c19 : a0 ≤ 122
      · rw [if_pos c19] at H
        have c19b0 : decide (a0 ≤ 122) = true := decide_eq_true c19
        clear c19
        obtain rfl := Option.some.inj H
        go_enter Tryz.func75, Tryz.ntmps75
        go_wp2
        go_ret
        exact ⟨by first | rfl | (simp; done) | (simp [*]; done), by repeat (first | exact Drawn0.refl _ | apply Drawn0.step)⟩
      · rw [if_neg c19] at H
        have c19b0 : decide (a0 ≤ 122) = false := decide_eq_false c19
        clear c19
        replace H := Option.bind_eq_some_iff.mp H
        obtain ⟨t108, A200, H⟩ := H
        replace H : (if t108 = true then (some true) else (if a0 = 95 then (some true) else (if a0 = 45 then (some true) else (if a0 = 46 then (some true) else (if a0 = 47 then (some true) else (some (a0 == 43))))))) = some r := H
        have A20 := Aside0.mk A200
        clear A200
        by_cases c21 : t108 = true
        · subst c21
          have H1 : (some true) = some r := by rw [if_pos rfl] at H; exact H
          clear H
          have H := H1
          clear H1
          obtain rfl := Option.some.inj H
          go_enter Tryz.func75, Tryz.ntmps75
          go_wp2_with (first | (go_at_call 96; (with_reducible refine (cooperageref1_digit.calls a0 true _ A20.out).mono ?_); rintro e w' ⟨rfl, ⟨nd, rfl⟩⟩))
          go_ret
          exact ⟨by first | rfl | (simp; done) | (simp [*]; done), by repeat (first | exact Drawn0.refl _ | apply Drawn0.step)⟩
        · replace c21 := Bool.eq_false_iff.mpr c21
          subst c21
          have H1 : (if a0 = 95 then (some true) else (if a0 = 45 then (some true) else (if a0 = 46 then (some true) else (if a0 = 47 then (some true) else (some (a0 == 43)))))) = some r := by rw [if_neg (show ¬ (false = true) by decide)] at H; exact H
          clear H
          have H := H1
          clear H1
          by_cases c22 : a0 = 95
          · rw [if_pos c22] at H
            have c22b0 : (a0 == 95) = true := beq_iff_eq.mpr c22
            have c22b1 : (a0 != 95) = false := bne_eq_false_iff_eq.mpr c22
            clear c22
            obtain rfl := Option.some.inj H
            go_enter Tryz.func75, Tryz.ntmps75
            go_wp2_with (first | (go_at_call 96; (with_reducible refine (cooperageref1_digit.calls a0 false _ A20.out).mono ?_); rintro e w' ⟨rfl, ⟨nd, rfl⟩⟩))
            go_ret
            exact ⟨by first | rfl | (simp; done) | (simp [*]; done), by repeat (first | exact Drawn0.refl _ | apply Drawn0.step)⟩
          · rw [if_neg c22] at H
            have c22b0 : (a0 == 95) = false := beq_eq_false_iff_ne.mpr c22
            have c22b1 : (a0 != 95) = true := bne_iff_ne.mpr c22
            by_cases c23 : a0 = 45
            · rw [if_pos c23] at H
              have c23b0 : (a0 == 45) = true := beq_iff_eq.mpr c23
              have c23b1 : (a0 != 45) = false := bne_eq_false_iff_eq.mpr c23
              clear c23
              obtain rfl := Option.some.inj H
              go_enter Tryz.func75, Tryz.ntmps75
              go_wp2_with (first | (go_at_call 96; (with_reducible refine (cooperageref1_digit.calls a0 false _ A20.out).mono ?_); rintro e w' ⟨rfl, ⟨nd, rfl⟩⟩))
              go_ret
              exact ⟨by first | rfl | (simp; done) | (simp [*]; done), by repeat (first | exact Drawn0.refl _ | apply Drawn0.step)⟩
            · rw [if_neg c23] at H
              have c23b0 : (a0 == 45) = false := beq_eq_false_iff_ne.mpr c23
              have c23b1 : (a0 != 45) = true := bne_iff_ne.mpr c23
              by_cases c24 : a0 = 46
              · rw [if_pos c24] at H
                have c24b0 : (a0 == 46) = true := beq_iff_eq.mpr c24
                have c24b1 : (a0 != 46) = false := bne_eq_false_iff_eq.mpr c24
                clear c24
                obtain rfl := Option.some.inj H
                go_enter Tryz.func75, Tryz.ntmps75
                go_wp2_with (first | (go_at_call 96; (with_reducible refine (cooperageref1_digit.calls a0 false _ A20.out).mono ?_); rintro e w' ⟨rfl, ⟨nd, rfl⟩⟩))
                go_ret
                exact ⟨by first | rfl | (simp; done) | (simp [*]; done), by repeat (first | exact Drawn0.refl _ | apply Drawn0.step)⟩
              · rw [if_neg c24] at H
                have c24b0 : (a0 == 46) = false := beq_eq_false_iff_ne.mpr c24
                have c24b1 : (a0 != 46) = true := bne_iff_ne.mpr c24
                by_cases c25 : a0 = 47
                · rw [if_pos c25] at H
                  have c25b0 : (a0 == 47) = true := beq_iff_eq.mpr c25
                  have c25b1 : (a0 != 47) = false := bne_eq_false_iff_eq.mpr c25
                  clear c25
                  obtain rfl := Option.some.inj H
                  go_enter Tryz.func75, Tryz.ntmps75
                  go_wp2_with (first | (go_at_call 96; (with_reducible refine (cooperageref1_digit.calls a0 false _ A20.out).mono ?_); rintro e w' ⟨rfl, ⟨nd, rfl⟩⟩))
                  go_ret
                  exact ⟨by first | rfl | (simp; done) | (simp [*]; done), by repeat (first | exact Drawn0.refl _ | apply Drawn0.step)⟩
                · rw [if_neg c25] at H
                  have c25b0 : (a0 == 47) = false := beq_eq_false_iff_ne.mpr c25
                  have c25b1 : (a0 != 47) = true := bne_iff_ne.mpr c25
                  obtain rfl := Option.some.inj H
                  go_enter Tryz.func75, Tryz.ntmps75
                  go_wp2_with (first | (go_at_call 96; (with_reducible refine (cooperageref1_digit.calls a0 false _ A20.out).mono ?_); rintro e w' ⟨rfl, ⟨nd, rfl⟩⟩))
                  go_ret
                  exact ⟨by first | rfl | (simp; done) | (simp [*]; done), by repeat (first | exact Drawn0.refl _ | apply Drawn0.step)⟩
    · rw [if_neg c18] at H
      have c18b0 : decide (97 ≤ a0) = false := decide_eq_false c18
      clear c18
      replace H := Option.bind_eq_some_iff.mp H
      obtain ⟨t109, A260, H⟩ := H
      replace H : (if t109 = true then (some true) else (if a0 = 95 then (some true) else (if a0 = 45 then (some true) else (if a0 = 46 then (some true) else (if a0 = 47 then (some true) else (some (a0 == 43))))))) = some r := H
      have A26 := Aside0.mk A260
      clear A260
      by_cases c27 : t109 = true
      · subst c27
        have H1 : (some true) = some r := by rw [if_pos rfl] at H; exact H
        clear H
        have H := H1
        clear H1
        obtain rfl := Option.some.inj H
        go_enter Tryz.func75, Tryz.ntmps75
        go_wp2_with (first | (go_at_call 96; (with_reducible refine (cooperageref1_digit.calls a0 true _ A26.out).mono ?_); rintro e w' ⟨rfl, ⟨nd, rfl⟩⟩))
        go_ret
        exact ⟨by first | rfl | (simp; done) | (simp [*]; done), by repeat (first | exact Drawn0.refl _ | apply Drawn0.step)⟩
      · replace c27 := Bool.eq_false_iff.mpr c27
        subst c27
        have H1 : (if a0 = 95 then (some true) else (if a0 = 45 then (some true) else (if a0 = 46 then (some true) else (if a0 = 47 then (some true) else (some (a0 == 43)))))) = some r := by rw [if_neg (show ¬ (false = true) by decide)] at H; exact H
        clear H
        have H := H1
        clear H1
        by_cases c28 : a0 = 95
        · rw [if_pos c28] at H
          have c28b0 : (a0 == 95) = true := beq_iff_eq.mpr c28
          have c28b1 : (a0 != 95) = false := bne_eq_false_iff_eq.mpr c28
          clear c28
          obtain rfl := Option.some.inj H
          go_enter Tryz.func75, Tryz.ntmps75
          go_wp2_with (first | (go_at_call 96; (with_reducible refine (cooperageref1_digit.calls a0 false _ A26.out).mono ?_); rintro e w' ⟨rfl, ⟨nd, rfl⟩⟩))
          go_ret
          exact ⟨by first | rfl | (simp; done) | (simp [*]; done), by repeat (first | exact Drawn0.refl _ | apply Drawn0.step)⟩
        · rw [if_neg c28] at H
          have c28b0 : (a0 == 95) = false := beq_eq_false_iff_ne.mpr c28
          have c28b1 : (a0 != 95) = true := bne_iff_ne.mpr c28
          by_cases c29 : a0 = 45
          · rw [if_pos c29] at H
            have c29b0 : (a0 == 45) = true := beq_iff_eq.mpr c29
            have c29b1 : (a0 != 45) = false := bne_eq_false_iff_eq.mpr c29
            clear c29
            obtain rfl := Option.some.inj H
            go_enter Tryz.func75, Tryz.ntmps75
            go_wp2_with (first | (go_at_call 96; (with_reducible refine (cooperageref1_digit.calls a0 false _ A26.out).mono ?_); rintro e w' ⟨rfl, ⟨nd, rfl⟩⟩))
            go_ret
            exact ⟨by first | rfl | (simp; done) | (simp [*]; done), by repeat (first | exact Drawn0.refl _ | apply Drawn0.step)⟩
          · rw [if_neg c29] at H
            have c29b0 : (a0 == 45) = false := beq_eq_false_iff_ne.mpr c29
            have c29b1 : (a0 != 45) = true := bne_iff_ne.mpr c29
            by_cases c30 : a0 = 46
            · rw [if_pos c30] at H
              have c30b0 : (a0 == 46) = true := beq_iff_eq.mpr c30
              have c30b1 : (a0 != 46) = false := bne_eq_false_iff_eq.mpr c30
              clear c30
              obtain rfl := Option.some.inj H
              go_enter Tryz.func75, Tryz.ntmps75
              go_wp2_with (first | (go_at_call 96; (with_reducible refine (cooperageref1_digit.calls a0 false _ A26.out).mono ?_); rintro e w' ⟨rfl, ⟨nd, rfl⟩⟩))
              go_ret
              exact ⟨by first | rfl | (simp; done) | (simp [*]; done), by repeat (first | exact Drawn0.refl _ | apply Drawn0.step)⟩
            · rw [if_neg c30] at H
              have c30b0 : (a0 == 46) = false := beq_eq_false_iff_ne.mpr c30
              have c30b1 : (a0 != 46) = true := bne_iff_ne.mpr c30
              by_cases c31 : a0 = 47
              · rw [if_pos c31] at H
                have c31b0 : (a0 == 47) = true := beq_iff_eq.mpr c31
                have c31b1 : (a0 != 47) = false := bne_eq_false_iff_eq.mpr c31
                clear c31
                obtain rfl := Option.some.inj H
                go_enter Tryz.func75, Tryz.ntmps75
                go_wp2_with (first | (go_at_call 96; (with_reducible refine (cooperageref1_digit.calls a0 false _ A26.out).mono ?_); rintro e w' ⟨rfl, ⟨nd, rfl⟩⟩))
                go_ret
                exact ⟨by first | rfl | (simp; done) | (simp [*]; done), by repeat (first | exact Drawn0.refl _ | apply Drawn0.step)⟩
              · rw [if_neg c31] at H
                have c31b0 : (a0 == 47) = false := beq_eq_false_iff_ne.mpr c31
                have c31b1 : (a0 != 47) = true := bne_iff_ne.mpr c31
                obtain rfl := Option.some.inj H
                go_enter Tryz.func75, Tryz.ntmps75
                go_wp2_with (first | (go_at_call 96; (with_reducible refine (cooperageref1_digit.calls a0 false _ A26.out).mono ?_); rintro e w' ⟨rfl, ⟨nd, rfl⟩⟩))
                go_ret
                exact ⟨by first | rfl | (simp; done) | (simp [*]; done), by repeat (first | exact Drawn0.refl _ | apply Drawn0.step)⟩
end Go.Proofs.YtghbaehbgefpaaaGreatDoor.F
